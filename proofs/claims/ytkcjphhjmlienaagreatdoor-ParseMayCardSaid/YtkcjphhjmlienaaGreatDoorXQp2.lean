import Derived.Test.YtkcjphhjmlienaaGreatDoorXQp1
import Derived.Test.YtkcjphhjmlienaaGreatDoorAi3
import Derived.Test.YtkcjphhjmlienaaGreatDoorAi2
import Derived.Test.YtkcjphhjmlienaaGreatDoorRows
import Derived.Test.YtkcjphhjmlienaaGreatDoorProg
/- Functions of the program as plain functions, and what they come to; part 2. -/
namespace Go.Proofs.YtkcjphhjmlienaaGreatDoor
set_option linter.unusedVariables false
set_option linter.unusedSimpArgs false
set_option maxRecDepth 100000
open Go Ai Go.Proofs
namespace Qp
theorem gAl (N:Nat) (h:Heap):f233 N [] h=some ((0,AV.iface 256 (.int .i64 2),()),h):=rfl
theorem iAl {N:Nat} {h:Heap} (hp:Qw.pinned h=true):∃ v h',f220 N [] h=some ((0,v,()),h')∧Chg [] h h':=by
 unfold f220;rw [gAl,aA];have e:wJ E .neq 29 (.tmp 11) (.const .nilIface) (AV.iface 256 (.int .i64 2)) AV.nilIface=some (.bool true):=by kernel_rfl
 simp only [e,fA,jB,cond_true];have ef:f234 N [65,116,111,105] [] 0 0 (AV.iface 256 (.int .i64 2)) h=some (AV.iface 259 (.ptr (some (h.next,0))),h.push (.row [.str [65,116,111,105],.str [],Qw.sen] .own)):=by
  unfold f234 Qw.dAb;rw [hp];rfl
 rw [ef,aA];exact ⟨_,_,rfl,vA _ _⟩
theorem cA4:∀ (t:Bs) (i:Nat) (hi:i<t.length),(ofBytes t)[i]? = some (.int .u8 ((t[i]).toNat:Int))
 | c::r,0,_=>rfl
 | c::r,i+1,hi=>by
  simp only [ofBytes,List.getElem?_cons_succ,List.getElem_cons_succ];exact cA4 r i (by simpa using hi)
theorem eAq {N:Nat} {t:Bs} {h:Heap} {A:Nat} (hA:h.t.get A=some (.row (ofBytes t) .grown)) (ht:t.all oD=true) (hl:t.length≤10) {v2:Int} {v3:AV} {v5:Bs} {cap:Nat}:∀ (M j v:Nat),j≤t.length→t.length-j<M→v<10 ^ j→
  jA6 N M v2 v3 v5 (v:Int) ⟨some (A,0),t.length,cap,1⟩ (Int.ofNat t.length) (j:Int) h=some (.exit 0,(v2,v3,v5,((tW (t.drop j) v:Nat):Int),()),h):=by
 intro M
 induction M with
 | zero=>intro j _ _ h;omega
 | succ M ih=>
  intro j v hj hM hv;rw [eAb];unfold rA0;simp only [tP]
  by_cases q:j<t.length
  ·simp only [q,decide_true,cond_true]
   have hd:oD t[j]=true:=List.all_eq_true.1 ht _ (List.getElem_mem q);have hd':=hd;simp only [oD,decide_eq_true_eq] at hd';rw [show ((j:Nat):Int)=Int.ofNat j from rfl,iAa _ _ _ _ _ q];have hc:h.cell (A,0+j * 1)=some (.int .u8 ((t[j]).toNat:Int)):=by
    rw [Nat.zero_add,Nat.mul_one];have hg:aB5 (h.g A)=some (ofBytes t):=by
     have:h.g A=some (.row (ofBytes t) .grown):=hA
     rw [this];rfl
    rw [Heap.cell_g,jAa,hg];simp only [Option.bind_some,List.head?_drop];exact cA4 t j q
   rw [hc];simp only [fA,kB];have w1:bB .u8 (((t[j]).toNat:Int)-48)=(((t[j]).toNat-48:Nat):Int):=by rw [u8_in (by omega) (by omega)];omega
   have z:uB 9 ((((t[j]).toNat-48:Nat)):Int)=false:=by
    have:=pG 9 ((t[j]).toNat-48)
    rw [show ((9:Nat):Int)=9 from rfl] at this;rw [this,decide_eq_false_iff_not];omega
   rw [w1];simp only [z,cond_false];have hp:(10:Nat) ^ j≤10 ^ 10:=Nat.pow_le_pow_right (by omega) (by omega);have w2:bB .i64 (bB .i64 ((v:Int) * 10)+bB .i64 (((t[j]).toNat-48:Nat):Int))=((v * 10+((t[j]).toNat-48):Nat):Int):=by
    rw [lD (x:=(v:Int) * 10) (by omega) (by omega),yS (by omega),lD (by omega) (by omega)];omega
   rw [w2,show Int.ofNat j=(j:Int) from rfl,rB (by omega),drop_cons q];simp only [tW];exact ih (j+1) _ q (by omega) (by rw [Nat.pow_succ];omega)
  ·simp only [q,decide_false,cond_false]
   rw [show t.drop j=[] from List.drop_of_length_le (by omega)];rfl
theorem kAv {N:Nat} {t:Bs} {h:Heap} (hN:20≤N) (hk:iA0 t=true) (h0:0<t.length):∃ h',f220 N t h=some ((((tW t 0:Nat):Int),AV.nilIface,()),h')∧Chg [] h h':=by
 have hl:t.length≤10:=by
  cases t with
  | nil=>simp at h0
  | cons c r=>
   by_cases q:10<(c::r).length
   ·rw [rAk q] at hk;cases hk
   ·omega
 have hall:t.all oD=true:=by
  simp only [iA0,Bool.and_eq_true] at hk;exact hk.1.1
 have hval:tW t 0≤2147483647:=by
  simp only [iA0,Bool.and_eq_true,Nat.ble_eq] at hk;exact hk.1.2
 have hd:oD t[0]=true:=List.all_eq_true.1 hall _ (List.getElem_mem h0);have hd':=hd;simp only [oD,decide_eq_true_eq] at hd';unfold f220 f233;have z1:uB 0 (Int.ofNat t.length)=true:=by rw [ltI,decide_eq_true_eq];show (0:Int)<(t.length:Int);omega
 have z2:uB (Int.ofNat t.length) 19=true:=by rw [ltI,decide_eq_true_eq];show (t.length:Int)<19;omega
 have e0:∀ {β:Type} (K:Int→Option β),eJ t 0 K=K ((t[0]).toNat:Int):=fun K=>qH h0 K;have z45:pA ((t[0]).toNat:Int) 45=false:=by rw [eqI,decide_eq_false_iff_not];omega
 have z43:pA ((t[0]).toNat:Int) 43=false:=by rw [eqI,decide_eq_false_iff_not];omega
 have hconv:mAc E 9 81 (.str t) h=some (.slice (some (h.next,0)) t.length t.length 1,h.push (.row (ofBytes t) .grown)):=by
  have u9:E.und 9=some .string:=tBc;have u81:∃ e,E.und 81=some (.slice e)∧E.und e=some (.int .u8):=by
   have:(match E.und 81 with | some (.slice e)=>(match E.und e with | some (.int .u8)=>true | _=>false) | _=>false)=true:=by kernel_rfl
   split at this
   ·rename_i e he
    split at this
    ·rename_i h8;exact ⟨e,he,h8⟩
    ·cases this
   ·cases this
  obtain ⟨e,h1,h2⟩:=u81;simp only [mAc,u9,h1,h2]
 simp only [z1,z2,cond_true,aA,bA,e0,z45,cond_false,z43,yA,aB,hconv,aG,qA];have hg:(h.push (.row (ofBytes t) .grown)).t.get h.next=some (.row (ofBytes t) .grown):=kK _ rfl;have lp:=eAq (N:=N) hg hall hl (v2:=0) (v3:=AV.nilIface) (v5:=t) (cap:=t.length) N 0 0 (Nat.zero_le _) (by omega) (by simp);rw [show ((0:Nat):Int)=0 from rfl,List.drop_zero] at lp;rw [lp];simp only [yB,fE,decide_true,cond_true,e0,z45,cond_false,aA,bA,yA,aB];have ne:wJ E .neq 29 (.tmp 11) (.const .nilIface) AV.nilIface AV.nilIface=some (.bool false):=ne_nil 11;simp only [ne,fA,jB,cond_false];exact ⟨_,rfl,vA _ _⟩
end Qp
namespace Qp
structure PC (T:List Tok) (P:Nat) (X:List Nat) (h:Heap) (σ:St) (st:Int):Prop where
 pa:PA T P X h σ st
 pin:Qw.pinned h=true
 p4:4≤P
theorem jN {h h':Heap} {M:List Nat} (c:Chg M h h') (hM:∀ A∈M,4≤A) (h4:4≤h.next) (hp:Qw.pinned h=true):Qw.pinned h'=true:=by
 unfold Qw.pinned Qx.pinned at hp ⊢;have e0:h'.t.get 0=h.t.get 0:=c.g 0 (by omega) (fun hm=>by have:=hM 0 hm;omega);have e2:h'.t.get 2=h.t.get 2:=c.g 2 (by omega) (fun hm=>by have:=hM 2 hm;omega);rw [c.pins,e0,e2];exact hp
section
variable {N:Nat} {T:List Tok} {P:Nat} {X X':List Nat} {h h':Heap} {σ σ':St} {st st':Int}
theorem PC.to (x:PC T P X h σ st) {M:List Nat} (c:Chg M h h') (hM:∀ A∈M,P≤A) (y:PA T P X' h' σ' st'):PC T P X' h' σ' st':=
 ⟨y,jN c (fun A hA=>Nat.le_trans x.p4 (hM A hA)) (by have:=x.pa.P_lt;have:=x.p4;omega) x.pin,x.p4⟩
theorem PC.to1 (x:PC T P X h σ st) (c:Chg [P] h h') (y:PA T P X' h' σ' st'):PC T P X' h' σ' st':=x.to c (by simp) y
theorem PC.chg (x:PC T P X h σ st) (c:Chg [] h h'):PC T P X h' σ st:=x.to c (by simp) (x.pa.chg c)
theorem PC.chgM {M:List Nat} (x:PC T P X h σ st) (c:Chg M h h') (hM:∀ A∈M,A∈X):PC T P X h' σ st:=x.to c (fun A hA=>Nat.le_of_lt (x.pa.xl A (hM A hA)).1) (x.pa.chgM c hM)
theorem PC.chg1 {A:Nat} (x:PC T P X h σ st) (c:Chg [A] h h') (hA:A∈X):PC T P X h' σ st:=x.chgM c (by simpa using hA)
theorem PC.free {i:Nat} (x:PC T P X h (i,none) st) (hX:∀ A∈X',P<A∧A<h.next):PC T P X' h (i,none) st:=⟨x.pa.free hX,x.pin,x.p4⟩
theorem PC.sub (x:PC T P X h σ st) (hX:∀ A∈X',A∈X):PC T P X' h σ st:=⟨x.pa.sub hX,x.pin,x.p4⟩
theorem PC.add (x:PC T P X h σ st) (c:Chg [] h h') {A:Nat} (h1:h.next≤A) (h2:A<h'.next):PC T P (A::X) h' σ st:=x.to c (by simp) (x.pa.add c h1 h2)
theorem PC.P_lt (x:PC T P X h σ st):P<h.next:=x.pa.P_lt
theorem PC.lt (x:PC T P X h σ st):σ.1<T.length:=x.pa.lt
theorem eAi (x:PC T P X h σ st) {c:Int} (hc:c≠0):∃ h',f57 N (some (P,0)) c h=some ((),h')∧Chg [P] h h'∧PC T P X h' (cF T c σ) st:=by
 obtain ⟨h',e,c,y⟩:=nA0 (N:=N) x.pa hc;exact ⟨h',e,c,x.to1 c y⟩
theorem yH (hT:Toks T) (x:PC T P X h σ st) {w:Bs} (hw:mA0 w=false):∃ h',f92 N (some (P,0)) w h=some ((qB T w σ).1,h')∧Chg [P] h h'∧PC T P X h' (qB T w σ).2 st:=by
 obtain ⟨h',e,c,y⟩:=yAh (N:=N) hT x.pa hw;exact ⟨h',e,c,x.to1 c y⟩
theorem gI (hT:Toks T) (x:PC T P X h σ st) {w:Bs} (hw:isWord w=false):∃ h',f93 N (some (P,0)) w h=some ((qB T w σ).1,h')∧Chg [P] h h'∧PC T P X h' (qB T w σ).2 st:=by
 obtain ⟨h',e,c,y⟩:=wA3 (N:=N) hT x.pa hw;exact ⟨h',e,c,x.to1 c y⟩
theorem gT (hT:Toks T) (x:PC T P X h σ st) {k:Int} (hk:k≠0):∃ h',f94 N (some (P,0)) k h=some ((aC T k σ).1,h')∧Chg [P] h h'∧PC T P X h' (aC T k σ).2 st:=by
 obtain ⟨h',e,c,y⟩:=vAa (N:=N) hT x.pa hk;exact ⟨h',e,c,x.to1 c y⟩
theorem aAy (hT:Toks T) (x:PC T P X h σ st):∃ h',f95 N (some (P,0)) h=some ((wH T σ).1,h')∧Chg [P] h h'∧PC T P X h' (wH T σ).2 st:=by
 obtain ⟨h',e,c,y⟩:=qAx (N:=N) hT x.pa;exact ⟨h',e,c,x.to1 c y⟩
theorem rF (hT:Toks T) (x:PC T P X h σ st) {w:Bs} (hw:isWord w=false):∃ h',f149 N (some (P,0)) w h=some ((),h')∧Chg [P] h h'∧PC T P X h' (eD T w σ) st:=by
 obtain ⟨h',e,c,y⟩:=kAp (N:=N) hT x.pa hw;exact ⟨h',e,c,x.to1 c y⟩
theorem uA0 (x:PC T P X h σ st) (n:Nat):∃ h',f188 N (some (P,0)) (n:Int) h=some (((if 64≤n then cF T 5 σ else σ).2).isNone,h')∧Chg [P] h h'∧PC T P X h' (if 64≤n then cF T 5 σ else σ) st:=by
 obtain ⟨h',e,c,y⟩:=fAe (N:=N) x.pa n;exact ⟨h',e,c,x.to1 c y⟩
theorem cB9 (hT:Toks T) (hN:100≤N) (x:PC T P X h σ st):∃ v h',f96 N (some (P,0)) h=some (v,h')∧PC T P X h' (fI T σ).2 st∧Chg [P] h h'∧Sl h' (fun C=>h.next≤C) v ((fI T σ).1.map D.s):=by
 obtain ⟨v,h',e,y,c,s⟩:=rAx (N:=N) hT hN x.pa;exact ⟨v,h',e,x.to1 c y,c,s⟩
theorem bAy (hT:Toks T) (hN:100≤N) (x:PC T P X h σ st):∃ r h',f55 N N (some (P,0)) 1 h=some (r,h')∧PC T P X h' (fL T 64 σ).2 st∧Chg [P] h h'∧Dt h' (fun C=>h.next≤C) (fL T 64 σ).1 (tyc r):=by
 obtain ⟨r,h',e,y,c,s⟩:=vAx (N:=N) hT hN 64 N h σ X (by omega) (by omega) x.pa;rw [show ((65-64:Nat):Int)=1 from rfl] at e;exact ⟨r,h',e,x.to1 c y,c,s⟩
end
theorem fAq {h0 H:Heap} {M:List Nat} {st e:TypeId} {n W:Nat} (ha:AppN E st e n W) (hn:0<n) {v:SL} {xs:List D} {d:D} {cs:List AV} (c:Chg M h0 H) (ow:Ow h0.next H v n xs) (hd:Dt H (fun C=>h0.next≤C∧v.blk≠some C) d cs) (hcs:cs.length=n) (hl:(xs.length+1) * W≤1073741824) :
  ∃ v' H',(∀ {β:Type} (K:SL→Heap→Option β),fG (.val zV2) (pC E st st (.slice v.a v.len v.cap v.sz) (.slice (some (H.next,0)) 1 1 n) (H.push (.row cs .own))) K=K v' H')∧Ow h0.next H' v' n (xs++[d])∧Chg v.blk.toList H H'∧(∀ A,v'.blk=some A→v.blk=some A∨H.next≤A):=by
 obtain ⟨v',H',e,o,c',hb⟩:=wS ha hn ow hd hcs c.next hl;exact ⟨v',H',fun K=>by rw [e];simp only [aG,qA],o,c',hb⟩
theorem gAq {h0 H:Heap} {M:List Nat} {st e:TypeId} {n W:Nat} (ha:AppN E st e n W) (hn:0<n) {O j:Nat} {cs0:List AV} {v:SL} {xs:List D} {d:D} {cs:List AV} (c:Chg M h0 H) (oO:H.own O cs0) (hj:cs0[j]? = some (SL.av v)) (ow:Ow h0.next H v n xs) (hO:O<h0.next) (hd:Dt H (fun C=>h0.next≤C∧v.blk≠some C) d cs) (hcs:cs.length=n) (hl:(xs.length+1) * W≤1073741824) :
  ∃ v' H',(∀ {β:Type} (K:Heap→Option β),(fG (.val zV2) (pC E st st (.slice v.a v.len v.cap v.sz) (.slice (some (H.next,0)) 1 1 n) (H.push (.row cs .own))) fun (x8:SL) h9=>uA (h9.store (O,j) [.slice x8.a x8.len x8.cap x8.sz]) K)=K H')∧H'.own O (cs0.set j (SL.av v'))∧Ow h0.next H' v' n (xs++[d])∧Chg (O::v.blk.toList) H H':=by
 obtain ⟨v',H',e,o,c',hb⟩:=fAq ha hn c ow hd hcs hl;have hge:∀ A∈v.blk.toList,h0.next≤A:=fun A hA=>(ow.ge A (by simpa using hA)).1;have oO':H'.own O cs0:=oO.chg c' (fun hm=>by have:=hge O hm;omega);have hjl:j<cs0.length:=(List.getElem?_eq_some_iff.1 hj).1;have hst:H'.store (O,j) [SL.av v']=some (H'.put O (.row (cs0.set j (SL.av v')) .own)):=oO'.store1 hjl _;have cp:=oO'.put (cs0.set j (SL.av v'));refine ⟨v',_,fun K=>?_,iB oO' _,o.chg cp (by intro A hA;rw [List.mem_singleton] at hA;omega),(c'.mono (fun A hA=>List.mem_cons_of_mem _ hA)).trans (cp.mono (by simp))⟩;rw [e];show uA (H'.store (O,j) [SL.av v']) K=_;rw [hst,bA]
noncomputable def kM (N:Nat) (P:zT2) (sep:Bs) (F:Heap→Option (Unit×Heap)):Nat→Int→Heap→Option (Out×Unit×Heap)
 | 0,_,_=>none
 | M+1,n,h=>(kA (f188 N P n h) fun (x1:Bool) h2=>
  (bif x1 then
   (kA (F h2) fun (x3:Unit) h4=>
   (kA (f93 N P sep h4) fun (x5:Bool) h6=>
   (bif !x5 then
   some (Out.ret,(),h6)
   else
   kM N P sep F M (bB .i64 (n+1)) h6)))
  else
   some (Out.exit 0,(),h2)))
def fP (T:List Tok) (one:St→D×St) (sep:Bs):Nat→St→List D×St
 | 0,σ=>([],cF T 5 σ)
 | g+1,σ=>let a:=one σ;let b:=qB T sep a.2;if b.1=true then ((a.1::(fP T one sep g b.2).1),(fP T one sep g b.2).2) else ([a.1],b.2)
theorem lAv {N:Nat} {T:List Tok} {P:Nat} {X:List Nat} {st:Int} (hT:Toks T) {F:Heap→Option (Unit×Heap)} {one:St→D×St} {Inv:Heap→List D→St→Prop}
  (hPC:∀ h xs σ,Inv h xs σ→PC T P X h σ st)
  (hstep:∀ h h' xs σ σ',Inv h xs σ→Chg [P] h h'→PC T P X h' σ' st→Inv h' xs σ')
  (hone:∀ h xs i,Inv h xs (i,none)→xs.length≤64→∃ h',F h=some ((),h')∧Inv h' (xs++[(one (i,none)).1]) (one (i,none)).2)
  {sep:Bs} (hsep:isWord sep=false):∀ (g M i:Nat) (h:Heap) (xs:List D),g<M→g≤64→xs.length≤64-g→Inv h xs (i,none)→
  ∃ o h',kM N (some (P,0)) sep F M ((64-g:Nat):Int) h=some (o,(),h')∧Inv h' (xs++(fP T one sep g (i,none)).1) (fP T one sep g (i,none)).2:=by
 intro g
 induction g with
 | zero=>
  intro M i h xs hM hg hx x;obtain ⟨M,rfl⟩:∃ m,M=m+1:=⟨M-1,by omega⟩;obtain ⟨h2,e2,c2,x2⟩:=uA0 (N:=N) (hPC _ _ _ x) (64-0);simp only [kM];rw [e2,aA];simp only [show 64≤64-0 by omega,if_true,cF,Option.isNone_some,cond_false] at x2 ⊢;refine ⟨_,h2,rfl,?_⟩;simp only [fP,List.append_nil];exact hstep _ _ _ _ _ x c2 x2
 | succ g ih=>
  intro M i h xs hM hg hx x;obtain ⟨M,rfl⟩:∃ m,M=m+1:=⟨M-1,by omega⟩;obtain ⟨h2,e2,c2,x2⟩:=uA0 (N:=N) (hPC _ _ _ x) (64-(g+1));simp only [kM];rw [e2,aA];have z:¬ 64≤64-(g+1):=by omega
  simp only [z,if_false,Option.isNone_none,cond_true] at x2 ⊢;obtain ⟨h4,e4,x4⟩:=hone _ _ _ (hstep _ _ _ _ _ x c2 x2) (by omega);rw [e4,aA];obtain ⟨h6,e6,c6,x6⟩:=gI (N:=N) hT (hPC _ _ _ x4) (w:=sep) hsep;rw [e6,aA];have x6':=hstep _ _ _ _ _ x4 c6 x6;simp only [fP]
  cases hb:(qB T sep (one (i,none)).2).1 with
  | false=>
   simp only [Bool.not_false,cond_true,Bool.false_eq_true,if_false];exact ⟨_,h6,rfl,x6'⟩
  | true=>
   simp only [Bool.not_true,cond_false,if_true];have hs:=(qF hb).1;rw [hs] at x6' ⊢;rw [rB (by omega),show 64-(g+1)+1=64-g by omega]
   have:=ih M _ h6 (xs++[(one (i,none)).1]) (by omega) (by omega) (by simp;omega) x6'
   simpa only [List.append_assoc,List.singleton_append] using this
def yD (T:List Tok) (one:St→D×St) (sep:Bs) (σ:St):List D×St:=match σ.2 with
 | none=>fP T one sep 64 σ
 | some _=>([],σ)
theorem kO {N:Nat} {T:List Tok} {P:Nat} {X:List Nat} {st:Int} (hT:Toks T) (hN:100≤N) {F:Heap→Option (Unit×Heap)} {one:St→D×St} {Inv:Heap→List D→St→Prop}
  (hPC:∀ h xs σ,Inv h xs σ→PC T P X h σ st)
  (hstep:∀ h h' xs σ σ',Inv h xs σ→Chg [P] h h'→PC T P X h' σ' st→Inv h' xs σ')
  (hone:∀ h xs i,Inv h xs (i,none)→xs.length≤64→∃ h',F h=some ((),h')∧Inv h' (xs++[(one (i,none)).1]) (one (i,none)).2)
  {sep:Bs} (hsep:isWord sep=false) {σ:St} {h:Heap} (x:Inv h [] σ) :
  ∃ o h',kM N (some (P,0)) sep F N 0 h=some (o,(),h')∧Inv h' (yD T one sep σ).1 (yD T one sep σ).2:=by
 obtain ⟨i,e⟩:=σ
 cases e with
 | none=>
  obtain ⟨o,h',e,y⟩:=lAv (N:=N) hT hPC hstep hone hsep 64 N i h [] (by omega) (Nat.le_refl _) (by simp) x;rw [show ((64-64:Nat):Int)=0 from rfl] at e;rw [List.nil_append] at y;exact ⟨o,h',e,y⟩
 | some q=>
  obtain ⟨M,rfl⟩:∃ m,N=m+1:=⟨N-1,by omega⟩;obtain ⟨h2,e2,c2,x2⟩:=uA0 (N:=M+1) (hPC _ _ _ x) 0;rw [show ((0:Nat):Int)=0 from rfl] at e2;simp only [kM];rw [e2,aA];simp only [show ¬ 64≤0 by omega,if_false,Option.isNone_some,cond_false] at x2 ⊢;exact ⟨_,h2,rfl,hstep _ _ _ _ _ x c2 x2⟩
end Qp
namespace Qp
theorem fD {h:Heap} {A j:Nat} {cs vs cs':List AV} (x:h.own A cs) (ho:over j cs vs=some cs'):h.store (A,j) vs=some (h.put A (.row cs' .own)):=by
 rw [Heap.store_g,x.1,mU,ho];rfl
abbrev FdV:=Bool×zA3×Int×zA3×SL×SL×Unit
def fdc (x:FdV):List AV:=[.bool x.1,.str x.2.1,.int .i64 x.2.2.1,.str x.2.2.2.1,SL.av x.2.2.2.2.1,SL.av x.2.2.2.2.2.1]
abbrev fd0:FdV:=(false,[],0,[],sl0,sl0,())
def eA2 (m:Bool) (nm:Bs) (r:TyV):FdV:=(m,nm,r.1,r.2.1,r.2.2.1,r.2.2.2.1,())
theorem nBe {β:Type} (r:FdV) (K:FdV→Option β):iA (.val zJ) (some (.agg (fdc r))) K=K r:=by
 obtain ⟨m,n,k,x,s1,s2,_⟩:=r;simp [fdc,SL.av]
theorem iAq {H:Heap} {A:Nat} {r:FdV} (o:H.own A (fdc r)) {β:Type} (K:FdV→Option β):iA (.val zJ) (H.cells (A,0) 6) K=K r:=by
 have:H.cells (A,0) 6=some (.agg (fdc r)):=o.cells (j:=0) (m:=6) (Nat.le_refl _)
 rw [this,nBe]
theorem jAq {H:Heap} {A:Nat} {r0:FdV} (o:H.own A (fdc r0)) (r:FdV):H.store (A,0) [.bool r.1,.str r.2.1,.int .i64 r.2.2.1,.str r.2.2.2.1,.slice r.2.2.2.2.1.a r.2.2.2.2.1.len r.2.2.2.2.1.cap r.2.2.2.2.1.sz,.slice r.2.2.2.2.2.1.a r.2.2.2.2.2.1.len r.2.2.2.2.2.1.cap r.2.2.2.2.2.1.sz]=some (H.put A (.row (fdc r) .own)):=o.store rfl
theorem yBg {H:Heap} {A:Nat} {r0:FdV} (o:H.own A (fdc r0)) (r:FdV) {β:Type} (K:FdV→Heap→Option β) :
  (uA (H.store (A,0) [.bool r.1,.str r.2.1,.int .i64 r.2.2.1,.str r.2.2.2.1,.slice r.2.2.2.2.1.a r.2.2.2.2.1.len r.2.2.2.2.1.cap r.2.2.2.2.1.sz,.slice r.2.2.2.2.2.1.a r.2.2.2.2.2.1.len r.2.2.2.2.2.1.cap r.2.2.2.2.2.1.sz]) fun h7=>iA (.val zJ) (h7.cells (A,0) 6) fun x8=>K x8 h7)=K r (H.put A (.row (fdc r) .own)):=by
 rw [jAq o,bA,iAq (iB o _)]
def fdD (m:Bool) (nm:Bs) (ty:D):D:=.t [.b m,.s nm,ty]
theorem pB1 (h:Heap) (V:Nat→Prop) (x:Bool):Dt h V (.b x) [.bool x]:=by simp only [Dt]
theorem jAl (h:Heap) (V:Nat→Prop) (x:Int):Dt h V (.i x) [.int .i64 x]:=by simp only [Dt]
theorem fW (h:Heap) (V:Nat→Prop):Dp h V [] []:=by simp only [Dp]
theorem kC {h:Heap} {V:Nat→Prop} {d:D} {r:List D} {a b:List AV} (x:Dt h V d a) (y:Dp h V r b):Dp h V (d::r) (a++b):=by
 simp only [Dp];exact ⟨a,b,rfl,x,y⟩
theorem mAv {h:Heap} {V:Nat→Prop} {ds:List D} {cs:List AV} (x:Dp h V ds cs):Dt h V (.t ds) cs:=by simp only [Dt];exact x
theorem dB9 {h:Heap} {V:Nat→Prop} {m:Bool} {nm:Bs} {ty:D} {r:TyV} (x:Dt h V ty (tyc r)):Dt h V (fdD m nm ty) (fdc (eA2 m nm r)):=
 mAv (kC (a:=[_]) (pB1 h V m) (kC (a:=[_]) (pJ h V nm) (kC (a:=tyc r) (b:=[]) x (fW h V))))
def aH (T:List Tok) (σ:St):D×St:=
 let a:=aC T 1 σ
 let r:=fL T 64 (eD T [58] a.2)
 (fdD false a.1 r.1,r.2)
section
variable {N:Nat} {T:List Tok} {P:Nat} {X:List Nat} {st:Int} {h:Heap} {σ:St}
theorem qAe (hT:Toks T) (hN:100≤N) (x:PC T P X h σ st):∃ r h',f154 N (some (P,0)) h=some (r,h')∧PC T P X h' (aH T σ).2 st∧Chg [P] h h'∧Dt h' (fun C=>h.next≤C) (aH T σ).1 (fdc r)∧∃ nm t,r=eA2 false nm t∧(aH T σ).1=fdD false nm (fL T 64 (eD T [58] (aC T 1 σ).2)).1∧Dt h' (fun C=>h.next≤C) (fL T 64 (eD T [58] (aC T 1 σ).2)).1 (tyc t):=by
 unfold f154;have hP:=x.P_lt;have o1:=wA h (fdc fd0);have c1:=vA h (.row (fdc fd0) .own);have x1:=x.add c1 (A:=h.next) (Nat.le_refl _) (Nat.lt_succ_self _);have e1:h.push (.row [(.bool false),(.str []),(.int .i64 0),(.str []),(.slice none 0 0 0),(.slice none 0 0 0)] .own)=h.push (.row (fdc fd0) .own):=rfl;rw [e1];have n1:(h.push (.row (fdc fd0) .own)).next=h.next+1:=rfl;generalize h.push (.row (fdc fd0) .own)=h1 at *;dsimp only;obtain ⟨h3,e3,c3,x3⟩:=gT (N:=N) hT x1 (k:=1) (by decide);rw [e3,aA];have o3:=o1.chg c3 (by simp;omega);have hn3:=c3.next;have oA0:=wA h3 (fdc fd0);have cA0:=vA h3 (.row (fdc fd0) .own);have eA:h3.push (.row [(.bool false),(.str []),(.int .i64 0),(.str []),(.slice none 0 0 0),(.slice none 0 0 0)] .own)=h3.push (.row (fdc fd0) .own):=rfl;generalize hnm:(aC T 1 σ).1=nm at *;have hstA:(h3.push (.row (fdc fd0) .own)).store (h3.next,0) [(.bool false),(.str nm),(.int .i64 0),(.str []),(.slice none 0 0 0),(.slice none 0 0 0)]=some ((h3.push (.row (fdc fd0) .own)).put h3.next (.row (fdc (eA2 false nm (0,[],sl0,sl0,()))) .own)):=oA0.store rfl;rw [eA,hstA,bA];have oA:=iB oA0 (fdc (eA2 false nm (0,[],sl0,sl0,())));have cA:Chg [] h3 ((h3.push (.row (fdc fd0) .own)).put h3.next (.row (fdc (eA2 false nm (0,[],sl0,sl0,()))) .own)):=cA0.put (.inr (Nat.le_refl _)) _;have nA:((h3.push (.row (fdc fd0) .own)).put h3.next (.row (fdc (eA2 false nm (0,[],sl0,sl0,()))) .own)).next=h3.next+1:=rfl;have x5:=x3.add cA (A:=h3.next) (Nat.le_refl _) (Nat.lt_succ_self _);have oR:=o3.chg cA (by simp);generalize (h3.push (.row (fdc fd0) .own)).put h3.next (.row (fdc (eA2 false nm (0,[],sl0,sl0,()))) .own)=h5 at *;obtain ⟨h7,e7,c7,x7⟩:=rF (N:=N) hT x5 (w:=[58]) (by decide);rw [e7,aA];obtain ⟨r8,h9,e9,x9,c9,d9⟩:=bAy (N:=N) hT hN x7;rw [e9,aA];have c79:=c7.trans c9;have oA9:=oA.chg c79 (by simp;omega);have oR9:=oR.chg c79 (by simp;omega);have hst:h9.store (h3.next,2) [.int .i64 r8.1,.str r8.2.1,.slice r8.2.2.1.a r8.2.2.1.len r8.2.2.1.cap r8.2.2.1.sz,.slice r8.2.2.2.1.a r8.2.2.2.1.len r8.2.2.2.1.cap r8.2.2.2.1.sz]=some (h9.put h3.next (.row (fdc (eA2 false nm r8)) .own)):=fD oA9 rfl;simp only [Nat.zero_add];rw [hst,bA];have cB:=oA9.put (fdc (eA2 false nm r8));have oA10:=iB oA9 (fdc (eA2 false nm r8));have oR10:=oR9.chg cB (by simp;omega);have x10:=x9.chg1 cB (by simp);have hn7:=c7.next;have d10:=d9.chg cB (fun C hC=>by simp;omega);have hn9:=c9.next;generalize h9.put h3.next (.row (fdc (eA2 false nm r8)) .own)=h10 at *;rw [iAq oA10];have cR:=oR10.put (fdc (eA2 false nm r8));have cAll:Chg [P] h h10:=by
  have a1:Chg [P] h h5:=((c1.mono (by simp)).trans c3).trans (cA.mono (by simp));exact (a1.trans c79).step cB (fun A hA hl=>by rw [List.mem_singleton] at hA;omega)
 have d11:=(d10.chg cR (fun C hC=>by simp;omega)).weak (W:=fun C=>h.next≤C) (fun C hC _=>by omega);simp only [aH,hnm];exact ⟨eA2 false nm r8,_,yBg oR10 (eA2 false nm r8) (fun x h=>some (x,h)),(x10.chg1 cR (by simp)).sub (by simp +contextual),cAll.put (.inr (Nat.le_refl _)) _,dB9 d11,nm,r8,rfl,rfl,d11⟩
end
end Qp
namespace Qp
structure CF (P:Nat) (X:List Nat) (h0:Heap) (O Q n j:Nat) (row:SL→List AV):Prop where
 o:P<O∧O<h0.next
 q:Q≠P∧Q≠O∧Q<h0.next
 x:O∈X
 rj:∀ v,(row v)[j]? = some (SL.av v)
 rs:∀ v v',(row v).set j (SL.av v')=row v'
structure CI (T:List Tok) (P:Nat) (X:List Nat) (st:Int) (h0:Heap) (O Q n:Nat) (row:SL→List AV) (h:Heap) (xs:List D) (σ:St):Prop where
 pc:PC T P X h σ st
 chg:Chg [P,O] h0 h
 q:h.own Q [.ptr (some (P,0))]
 ex:∃ v,h.own O (row v)∧Ow h0.next h v n xs
section
variable {T:List Tok} {P:Nat} {X:List Nat} {st:Int} {h0 h h' h6:Heap} {O Q n j:Nat} {row:SL→List AV} {xs:List D} {σ σ':St}
theorem CI.step (f:CF P X h0 O Q n j row) (x:CI T P X st h0 O Q n row h xs σ) (c:Chg [P] h h') (y:PC T P X h' σ' st):CI T P X st h0 O Q n row h' xs σ':=by
 obtain ⟨v,o1,w1⟩:=x.ex
 have:=f.o;have:=f.q
 exact ⟨y,x.chg.trans (c.mono (by simp)),x.q.chg c (by simp;omega),v,o1.chg c (by simp;omega),w1.chg c (by intro A hA;rw [List.mem_singleton] at hA;omega)⟩
theorem CI.open {i:Nat} (f:CF P X h0 O Q n j row) (x:CI T P X st h0 O Q n row h xs (i,none)):∃ v,h.own O (row v)∧Ow h0.next h v n xs∧PC T P (v.blk.toList++X) h (i,none) st∧h.cell (O,j)=some (.slice v.a v.len v.cap v.sz)∧h.cell (Q,0)=some (.ptr (some (P,0))):=by
 obtain ⟨v,o1,w1⟩:=x.ex
 have:=f.o
 refine ⟨v,o1,w1,x.pc.free fun A hA=>?_,by rw [o1.cell j,f.rj v];rfl,x.q.cell 0⟩;rcases List.mem_append.1 hA with hA | hA
 ·have:=w1.ge A (by simpa using hA);omega
 ·exact x.pc.pa.xl A hA
theorem CI.close {i:Nat} (f:CF P X h0 O Q n j row) (x:CI T P X st h0 O Q n row h xs (i,none)) {v:SL} (o1:h.own O (row v)) (w1:Ow h0.next h v n xs) {t e:TypeId} {W:Nat} (ha:AppN E t e n W) (hn:0<n) (hW:W≤10000000) (hl:xs.length≤64) (c:Chg [P] h h6) (y:PC T P (v.blk.toList++X) h6 σ' st) {d:D} {cs:List AV} (hd:Dt h6 (fun C=>h.next≤C) d cs) (hcs:cs.length=n) :
  ∃ H',(∀ {β:Type} (K:Heap→Option β),(fG (.val zV2) (pC E t t (.slice v.a v.len v.cap v.sz) (.slice (some (h6.next,0)) 1 1 n) (h6.push (.row cs .own))) fun (x8:SL) h9=>uA (h9.store (O,j) [.slice x8.a x8.len x8.cap x8.sz]) K)=K H')∧CI T P X st h0 O Q n row H' (xs++[d]) σ'∧h6.cell (O,j)=some (.slice v.a v.len v.cap v.sz)∧(h6.push (.row cs .own)).cell (O,j)=some (.slice v.a v.len v.cap v.sz):=by
 have hO:=f.o;have hQ:=f.q;have hlt:∀ A,v.blk=some A→h0.next≤A∧A<h.next:=w1.ge;have c06:Chg [P,O] h0 h6:=x.chg.trans (c.mono (by simp));have o6:h6.own O (row v):=o1.chg c (by simp;omega);have w6:Ow h0.next h6 v n xs:=w1.chg c (by intro A hA;rw [List.mem_singleton] at hA;omega);have hn0:=x.chg.next;have hd6:Dt h6 (fun C=>h0.next≤C∧v.blk≠some C) d cs:=hd.weak fun C hC _=>⟨by omega,fun e=>by have:=hlt C e;omega⟩;have hll:(xs.length+1) * W≤1073741824:=by
  have:(xs.length+1) * W≤65 * 10000000:=Nat.mul_le_mul (by omega) hW
  omega
 obtain ⟨v',H',e',o',w',c'⟩:=gAq ha hn c06 o6 (f.rj v) w6 hO.2 hd6 hcs hll;have hM:∀ A∈O::v.blk.toList,P<A∧A∈v.blk.toList++X:=fun A hA=>by
  rcases List.mem_cons.1 hA with rfl | hA
  ·exact ⟨hO.1,List.mem_append_right _ f.x⟩
  ·exact ⟨by have:=hlt A (by simpa using hA);omega,List.mem_append_left _ hA⟩
 have y':=y.chgM c' fun A hA=>(hM A hA).2;refine ⟨H',e',⟨y'.sub fun A hA=>List.mem_append_right _ hA,c06.step c' fun A hA hlt'=>?_,(x.q.chg c (by simp;omega)).chg c' fun hm=>?_,v',by rw [← f.rs v v'];exact o',w'⟩,by rw [o6.cell j,f.rj v];rfl,by rw [(o6.chg (vA h6 _) (by simp)).cell j,f.rj v];rfl⟩
 ·rcases List.mem_cons.1 hA with rfl | hA
  ·simp
  ·have:=hlt A (by simpa using hA);omega
 ·rcases List.mem_cons.1 hm with e | hm
  ·exact hQ.2.1 e
  ·have:=hlt Q (by simpa using hm);omega
end
abbrev StV:=Bool×zA3×SL×SL×Int×Unit
def stc (x:StV):List AV:=[.bool x.1,.str x.2.1,SL.av x.2.2.1,SL.av x.2.2.2.1,.int .i64 x.2.2.2.2.1]
abbrev st0:StV:=(false,[],sl0,sl0,0,())
theorem oBe {β:Type} (r:StV) (K:StV→Option β):iA (.val zH) (some (.agg (stc r))) K=K r:=by
 obtain ⟨m,n,s1,s2,k,_⟩:=r;simp [stc,SL.av]
theorem kAq {H:Heap} {A:Nat} {r:StV} (o:H.own A (stc r)) {β:Type} (K:StV→Option β):iA (.val zH) (H.cells (A,0) 5) K=K r:=by
 have:H.cells (A,0) 5=some (.agg (stc r)):=o.cells (j:=0) (m:=5) (Nat.le_refl _)
 rw [this,oBe]
theorem iBg {H:Heap} {A:Nat} {r0:StV} (o:H.own A (stc r0)) (r:StV) {β:Type} (K:StV→Heap→Option β) :
  (uA (H.store (A,0) [.bool r.1,.str r.2.1,.slice r.2.2.1.a r.2.2.1.len r.2.2.1.cap r.2.2.1.sz,.slice r.2.2.2.1.a r.2.2.2.1.len r.2.2.2.1.cap r.2.2.2.1.sz,.int .i64 r.2.2.2.2.1]) fun h7=>iA (.val zH) (h7.cells (A,0) 5) fun x8=>K x8 h7)=K r (H.put A (.row (stc r) .own)):=by
 have:H.store (A,0) [.bool r.1,.str r.2.1,.slice r.2.2.1.a r.2.2.1.len r.2.2.1.cap r.2.2.1.sz,.slice r.2.2.2.1.a r.2.2.2.1.len r.2.2.2.1.cap r.2.2.2.1.sz,.int .i64 r.2.2.2.2.1]=some (H.put A (.row (stc r) .own)):=o.store rfl
 rw [this,bA,kAq (iB o _)]
def nAv (pub:Bool) (nm:Bs) (lv:List Bs) (fs:List D) (at_:Int):D:=.t [.b pub,.s nm,.l (lv.map D.s),.l fs,.i at_]
theorem lAq {h:Heap} {V:Nat→Prop} {pub:Bool} {nm:Bs} {lv:List Bs} {fs:List D} {at_:Int} {s1 s2:SL} (x:Sl h V s1 (lv.map D.s)) (y:Sl h V s2 fs):Dt h V (nAv pub nm lv fs at_) (stc (pub,nm,s1,s2,at_,())):=
 mAv (kC (a:=[_]) (pB1 h V pub) (kC (a:=[_]) (pJ h V nm) (kC (a:=[_]) (bP.2 x) (kC (a:=[_]) (bP.2 y) (kC (a:=[_]) (b:=[]) (jAl h V at_) (fW h V))))))
def uF (T:List Tok) (pub:Bool) (at_:Int) (σ:St):D×St:=
 let a:=aC T 1 σ
 let l:=fI T a.2
 let b:=qB T [125] (eD T [123] l.2)
 if b.1=true then (nAv pub a.1 l.1 [] at_,b.2)
 else let fs:=yD T (aH T) [44] b.2;(nAv pub a.1 l.1 fs.1 at_,eD T [125] fs.2)
theorem eB9:AppN E 37 140 6 1000:=AppN.of (by kernel_rfl)
section
variable {N:Nat} {T:List Tok} {P:Nat} {X:List Nat} {st:Int} {h:Heap} {σ:St}
theorem uP (P:zT2) (sep:Bs) (O Q:zT2):∀ (M:Nat) (n:Int) (h:Heap),iL N M P sep (O,Q,()) n h=kM N P sep (fun h=>f153 N O Q h) M n h
 | 0,n,h=>rfl
 | M+1,n,h=>by
  rw [uW];unfold gL;simp only [kM];simp only [uP P sep O Q M]
theorem qB1 (hT:Toks T) (hN:100≤N) {h0:Heap} {O Q:Nat} {row:SL→List AV} (f:CF P X h0 O Q 6 3 row) {xs:List D} {i:Nat} (x:CI T P X st h0 O Q 6 row h xs (i,none)) (hl:xs.length≤64):∃ h',f153 N (some (O,0)) (some (Q,0)) h=some ((),h')∧CI T P X st h0 O Q 6 row h' (xs++[(aH T (i,none)).1]) (aH T (i,none)).2:=by
 unfold f153;obtain ⟨v,o1,w1,y,r1,r2⟩:=x.open f;obtain ⟨r,h6,e6,x6,c6,d6,_⟩:=qAe (N:=N) hT hN y;obtain ⟨H',eK,ci,g1,g2⟩:=x.close f o1 w1 eB9 (by decide) (by decide) hl c6 x6 d6 rfl;simp only [bA,Nat.zero_add,r1,r2,fA,qA,wB];rw [e6,aA];have g2':(h6.push (.row [(.bool r.1),(.str r.2.1),(.int .i64 r.2.2.1),(.str r.2.2.2.1),(.slice r.2.2.2.2.1.a r.2.2.2.2.1.len r.2.2.2.2.1.cap r.2.2.2.2.1.sz),(.slice r.2.2.2.2.2.1.a r.2.2.2.2.2.1.len r.2.2.2.2.2.1.cap r.2.2.2.2.2.1.sz)] .own)).cell (O,3)=some (.slice v.a v.len v.cap v.sz):=g2;simp only [pE,r2,g2',g1,r1,rD,cond_true,yC];exact ⟨H',eK _,ci⟩
theorem rAe (hT:Toks T) (hN:100≤N) {h0:Heap} {O Q:Nat} {row:SL→List AV} (f:CF P X h0 O Q 6 3 row) (x:CI T P X st h0 O Q 6 row h0 [] σ):∃ h',aY N (some (P,0)) [44] ((some (O,0)),(some (Q,0)),()) h0=some ((),h')∧CI T P X st h0 O Q 6 row h' (yD T (aH T) [44] σ).1 (yD T (aH T) [44] σ).2:=by
 unfold aY;obtain ⟨o,h',e,y⟩:=kO (N:=N) hT hN (F:=fun h=>f153 N (some (O,0)) (some (Q,0)) h) (one:=aH T) (Inv:=CI T P X st h0 O Q 6 row) (fun h xs σ c=>c.pc) (fun h h' xs σ σ' c d z=>c.step f d z) (fun h xs i c hl=>qB1 hT hN f c hl) (sep:=[44]) (by decide) x;simp only [uP];rw [e];simp only [yB];cases mD o (.exit 0) <;> exact ⟨h',rfl,y⟩
theorem rB1 (hT:Toks T) (hN:100≤N) (x:PC T P X h σ st) (pub:Bool) (at_:Int):∃ r h',f102 N (some (P,0)) pub at_ h=some (r,h')∧PC T P X h' (uF T pub at_ σ).2 st∧Chg [P] h h'∧Dt h' (fun C=>h.next≤C) (uF T pub at_ σ).1 (stc r):=by
 unfold f102;have hP:=x.P_lt;have oQ:=wA h [AV.ptr (some (P,0))];have cQ:=vA h (.row [AV.ptr (some (P,0))] .own);have nQ:(h.push (.row [AV.ptr (some (P,0))] .own)).next=h.next+1:=rfl;dsimp only;generalize h.push (.row [AV.ptr (some (P,0))] .own)=h1 at *;have oR:=wA h1 (stc st0);have cR:=vA h1 (.row (stc st0) .own);have eR:h1.push (.row [(.bool false),(.str []),(.slice none 0 0 0),(.slice none 0 0 0),(.int .i64 0)] .own)=h1.push (.row (stc st0) .own):=rfl;have nR:(h1.push (.row (stc st0) .own)).next=h1.next+1:=rfl;have x2:=(x.chg cQ).add cR (A:=h1.next) (Nat.le_refl _) (Nat.lt_succ_self _);rw [eR];generalize h1.push (.row (stc st0) .own)=h2 at *;have oQ2:=oQ.chg cR (by simp);have c02:=cQ.trans cR;have r2:h2.cell (h.next,0)=some (.ptr (some (P,0))):=oQ2.cell 0;simp only [r2,fA,wB];obtain ⟨h5,e5,c5,x5⟩:=gT (N:=N) hT x2 (k:=1) (by decide);rw [e5,aA];have oQ5:=oQ2.chg c5 (by simp;omega);have oR5:=oR.chg c5 (by simp;omega);have hn5:=c5.next;generalize hnm:(aC T 1 σ).1=nm at *;have oO0:=wA h5 (stc st0);have cO0:=vA h5 (.row (stc st0) .own);have eO:h5.push (.row [(.bool false),(.str []),(.slice none 0 0 0),(.slice none 0 0 0),(.int .i64 0)] .own)=h5.push (.row (stc st0) .own):=rfl;have hstO:(h5.push (.row (stc st0) .own)).store (h5.next,0) [(.bool pub),(.str nm),(.slice none 0 0 0),(.slice none 0 0 0),(.int .i64 at_)]=some ((h5.push (.row (stc st0) .own)).put h5.next (.row (stc (pub,nm,sl0,sl0,at_,())) .own)):=oO0.store rfl;rw [eO,hstO,bA];have oO:=iB oO0 (stc (pub,nm,sl0,sl0,at_,()));have cO:Chg [] h5 ((h5.push (.row (stc st0) .own)).put h5.next (.row (stc (pub,nm,sl0,sl0,at_,())) .own)):=cO0.put (.inr (Nat.le_refl _)) _;have nO:((h5.push (.row (stc st0) .own)).put h5.next (.row (stc (pub,nm,sl0,sl0,at_,())) .own)).next=h5.next+1:=rfl;have x7:=x5.add cO (A:=h5.next) (Nat.le_refl _) (Nat.lt_succ_self _);have oQ7:=oQ5.chg cO (by simp);have oR7:=oR5.chg cO (by simp);generalize (h5.push (.row (stc st0) .own)).put h5.next (.row (stc (pub,nm,sl0,sl0,at_,())) .own)=h7 at *;have r7:h7.cell (h.next,0)=some (.ptr (some (P,0))):=oQ7.cell 0;simp only [r7,fA,wB];obtain ⟨s9,h10,e10,x10,c10,sl10⟩:=cB9 (N:=N) hT hN x7;rw [e10,aA];have oQ10:=oQ7.chg c10 (by simp;omega);have oR10:=oR7.chg c10 (by simp;omega);have oO10:=oO.chg c10 (by simp;omega);have hn10:=c10.next;have hst:h10.store (h5.next,2) [.slice s9.a s9.len s9.cap s9.sz]=some (h10.put h5.next (.row (stc (pub,nm,s9,sl0,at_,())) .own)):=fD oO10 rfl;simp only [Nat.zero_add];rw [hst,bA];have cS:=oO10.put (stc (pub,nm,s9,sl0,at_,()));have oO11:=iB oO10 (stc (pub,nm,s9,sl0,at_,()));have oQ11:=oQ10.chg cS (by simp;omega);have oR11:=oR10.chg cS (by simp;omega);have x11:=x10.chg1 cS (by simp);have sl11:=sl10.chg cS (fun C hC=>by simp;omega);have n11:(h10.put h5.next (.row (stc (pub,nm,s9,sl0,at_,())) .own)).next=h10.next:=rfl;have c011:Chg [P] h (h10.put h5.next (.row (stc (pub,nm,s9,sl0,at_,())) .own)):=by
  have a1:Chg [P] h h7:=((c02.mono (by simp)).trans c5).trans (cO.mono (by simp));exact (a1.trans c10).step cS (fun A hA hl=>by rw [List.mem_singleton] at hA;omega)
 generalize h10.put h5.next (.row (stc (pub,nm,s9,sl0,at_,())) .own)=h11 at *;have r11:h11.cell (h.next,0)=some (.ptr (some (P,0))):=oQ11.cell 0;simp only [r11,fA,wB];obtain ⟨h14,e14,c14,x14⟩:=rF (N:=N) hT x11 (w:=[123]) (by decide);rw [e14,aA];have oQ14:=oQ11.chg c14 (by simp;omega);have r14:h14.cell (h.next,0)=some (.ptr (some (P,0))):=oQ14.cell 0;simp only [r14,fA,wB];obtain ⟨h17,e17,c17,x17⟩:=gI (N:=N) hT x14 (w:=[125]) (by decide);rw [e17,aA];have c1117:=c14.trans c17;have oQ17:=oQ14.chg c17 (by simp;omega);have oO17:=oO11.chg c1117 (by simp;omega);have oR17:=oR11.chg c1117 (by simp;omega);have sl17:=sl11.chg c1117 (fun C hC=>by simp;omega);have hn17:=c1117.next;have c017:=c011.trans c1117;simp only [uF,hnm]
 cases hb:(qB T [125] (eD T [123] (fI T (aC T 1 σ).2).2)).1 with
 | true=>
  simp only [Bool.not_true,cond_false,if_true];rw [kAq oO17];have cZ:=oR17.put (stc (pub,nm,s9,sl0,at_,()));refine ⟨(pub,nm,s9,sl0,at_,()),_,iBg oR17 (pub,nm,s9,sl0,at_,()) (fun x h=>some (x,h)),(x17.chg1 cZ (by simp)).sub (by simp +contextual),c017.step cZ (fun A hA hl=>by rw [List.mem_singleton] at hA;omega),lAq ?_ (Sl.nil _ _ _)⟩;exact (sl17.chg cZ (fun C hC=>by simp;omega)).weak (fun C hC _=>by omega)
 | false=>
  simp only [Bool.not_false,cond_true,Bool.false_eq_true,if_false];have r17:h17.cell (h.next,0)=some (.ptr (some (P,0))):=oQ17.cell 0;simp only [r17,fA,wB];have f:CF P (h5.next::h1.next::X) h17 h5.next h.next 6 3 (fun v=>stc (pub,nm,s9,v,at_,())):=⟨by omega,by omega,by simp,fun v=>rfl,fun v v'=>rfl⟩;obtain ⟨h21,e21,ci⟩:=rAe (N:=N) hT hN f ⟨x17,Chg.refl _ _,oQ17,sl0,oO17,Ow.nil _ _ _ _⟩;rw [e21,aA];obtain ⟨v,oO21,w21⟩:=ci.ex;have r21:h21.cell (h.next,0)=some (.ptr (some (P,0))):=ci.q.cell 0;simp only [r21,fA,wB];obtain ⟨h24,e24,c24,x24⟩:=rF (N:=N) hT ci.pc (w:=[125]) (by decide);rw [e24,aA];have hn21:=ci.chg.next;have hn24:=c24.next;have oO24:=oO21.chg c24 (by simp;omega);have w24:=w21.chg c24 (by intro A hA;rw [List.mem_singleton] at hA;omega);have oR24:=(oR17.chg ci.chg (by simp;omega)).chg c24 (by simp;omega);have sl24:=(sl17.chg ci.chg (fun C hC=>by simp;omega)).chg c24 (fun C hC=>by simp;omega);rw [kAq oO24];have cZ:=oR24.put (stc (pub,nm,s9,v,at_,()));have c024:Chg [P] h h24:=(c017.step ci.chg (fun A hA hl=>by
   simp only [List.mem_cons,List.not_mem_nil,or_false] at hA ⊢;omega)).trans c24
  refine ⟨(pub,nm,s9,v,at_,()),_,iBg oR24 (pub,nm,s9,v,at_,()) (fun x h=>some (x,h)),(x24.chg1 cZ (by simp)).sub (by simp +contextual),c024.step cZ (fun A hA hl=>by rw [List.mem_singleton] at hA;omega),lAq ?_ ?_⟩
  ·exact (sl24.chg cZ (fun C hC=>by simp;omega)).weak (fun C hC _=>by omega)
  ·exact (w24.sl.chg cZ (fun C hC=>by simp;omega)).weak (fun C hC _=>by omega)
end
end Qp
namespace Qp
abbrev LfV:=zA3×SL×Unit
def lfc (x:LfV):List AV:=[.str x.1,SL.av x.2.1]
abbrev lf0:LfV:=([],sl0,())
theorem tAe {β:Type} (r:LfV) (K:LfV→Option β):iA (.val zI) (some (.agg (lfc r))) K=K r:=by
 obtain ⟨n,s,_⟩:=r;simp [lfc,SL.av]
theorem fAi {H:Heap} {A:Nat} {r:LfV} (o:H.own A (lfc r)) {β:Type} (K:LfV→Option β):iA (.val zI) (H.cells (A,0) 2) K=K r:=by
 have:H.cells (A,0) 2=some (.agg (lfc r)):=o.cells (j:=0) (m:=2) (Nat.le_refl _)
 rw [this,tAe]
theorem pBe {H:Heap} {A:Nat} {r0:LfV} (o:H.own A (lfc r0)) (r:LfV) {β:Type} (K:LfV→Heap→Option β) :
  (uA (H.store (A,0) [.str r.1,.slice r.2.1.a r.2.1.len r.2.1.cap r.2.1.sz]) fun h7=>iA (.val zI) (h7.cells (A,0) 2) fun x8=>K x8 h7)=K r (H.put A (.row (lfc r) .own)):=by
 have:H.store (A,0) [.str r.1,.slice r.2.1.a r.2.1.len r.2.1.cap r.2.1.sz]=some (H.put A (.row (lfc r) .own)):=o.store rfl
 rw [this,bA,fAi (iB o _)]
def vL (nm:Bs) (l:List D):D:=.t [.s nm,.l l]
theorem mA6 {h:Heap} {V:Nat→Prop} {nm:Bs} {l:List D} {s:SL} (x:Sl h V s l):Dt h V (vL nm l) (lfc (nm,s,())):=
 mAv (kC (a:=[_]) (pJ h V nm) (kC (a:=[_]) (b:=[]) (bP.2 x) (fW h V)))
def nA6 (T:List Tok) (k:Int) (σ:St):D×St:=(.s (aC T k σ).1,(aC T k σ).2)
def eY (T:List Tok) (σ:St):D×St:=
 let a:=aC T 3 σ
 let b:=qB T [58] a.2
 if b.1=true then (vL a.1 (yD T (nA6 T 3) [43] b.2).1,(yD T (nA6 T 3) [43] b.2).2) else (vL a.1 [],b.2)
def bG (T:List Tok) (σ:St):D×St:=
 let m:=qB T [109,117,116] σ
 let a:=aC T 1 m.2
 let r:=fL T 64 (eD T [58] a.2)
 (fdD m.1 a.1 r.1,r.2)
theorem qBe:AppN E 36 76 2 1000:=AppN.of (by kernel_rfl)
section
variable {N:Nat} {T:List Tok} {P:Nat} {X:List Nat} {st:Int} {h:Heap} {σ:St}
theorem vP (P:zT2) (sep:Bs) (O Q:zT2):∀ (M:Nat) (n:Int) (h:Heap),kL N M P sep (O,Q,()) n h=kM N P sep (fun h=>f189 N O Q h) M n h
 | 0,n,h=>rfl
 | M+1,n,h=>by
  rw [vW];unfold jL;simp only [kM];simp only [vP P sep O Q M]
theorem wP (P:zT2) (sep:Bs) (O Q:zT2):∀ (M:Nat) (n:Int) (h:Heap),mL N M P sep (O,Q,()) n h=kM N P sep (fun h=>f155 N O Q h) M n h
 | 0,n,h=>rfl
 | M+1,n,h=>by
  rw [wW];unfold lL;simp only [kM];simp only [wP P sep O Q M]
theorem yP (P:zT2) (sep:Bs) (O Q:zT2):∀ (M:Nat) (n:Int) (h:Heap),pL N M P sep (Q,O,()) n h=kM N P sep (fun h=>f157 N Q O h) M n h
 | 0,n,h=>rfl
 | M+1,n,h=>by
  rw [yW];unfold oL;simp only [kM];simp only [yP P sep O Q M]
theorem tB1 (hT:Toks T) {h0:Heap} {O Q:Nat} {row:SL→List AV} (f:CF P X h0 O Q 1 1 row) {xs:List D} {i:Nat} (x:CI T P X st h0 O Q 1 row h xs (i,none)) (hl:xs.length≤64):∃ h',f189 N (some (O,0)) (some (Q,0)) h=some ((),h')∧CI T P X st h0 O Q 1 row h' (xs++[(nA6 T 3 (i,none)).1]) (nA6 T 3 (i,none)).2:=by
 unfold f189;obtain ⟨v,o1,w1,y,r1,r2⟩:=x.open f;obtain ⟨h6,e6,c6,x6⟩:=gT (N:=N) hT y (k:=3) (by decide);obtain ⟨H',eK,ci,g1,g2⟩:=x.close f o1 w1 lAp (by decide) (by decide) hl c6 x6 (pJ h6 _ (aC T 3 (i,none)).1) rfl;simp only [bA,Nat.zero_add,r1,r2,fA,qA,wB];rw [e6,aA];simp only [pE,r2,g2,g1,r1,rD,cond_true,yC];exact ⟨H',eK _,ci⟩
theorem mAq (hT:Toks T) (hN:100≤N) {h0:Heap} {O Q:Nat} {row:SL→List AV} (f:CF P X h0 O Q 1 1 row) (x:CI T P X st h0 O Q 1 row h0 [] σ):∃ h',bY N (some (P,0)) [43] ((some (O,0)),(some (Q,0)),()) h0=some ((),h')∧CI T P X st h0 O Q 1 row h' (yD T (nA6 T 3) [43] σ).1 (yD T (nA6 T 3) [43] σ).2:=by
 unfold bY;obtain ⟨o,h',e,y⟩:=kO (N:=N) hT hN (F:=fun h=>f189 N (some (O,0)) (some (Q,0)) h) (one:=nA6 T 3) (Inv:=CI T P X st h0 O Q 1 row) (fun h xs σ c=>c.pc) (fun h h' xs σ σ' c d z=>c.step f d z) (fun h xs i c hl=>tB1 hT f c hl) (sep:=[43]) (by decide) x;simp only [vP];rw [e];simp only [yB];cases mD o (.exit 0) <;> exact ⟨h',rfl,y⟩
theorem uB1 (hT:Toks T) (hN:100≤N) (x:PC T P X h σ st):∃ r h',f156 N (some (P,0)) h=some (r,h')∧PC T P X h' (eY T σ).2 st∧Chg [P] h h'∧Dt h' (fun C=>h.next≤C) (eY T σ).1 (lfc r):=by
 unfold f156;have hP:=x.P_lt;have oQ:=wA h [AV.ptr (some (P,0))];have cQ:=vA h (.row [AV.ptr (some (P,0))] .own);have nQ:(h.push (.row [AV.ptr (some (P,0))] .own)).next=h.next+1:=rfl;dsimp only;generalize h.push (.row [AV.ptr (some (P,0))] .own)=h1 at *;have oR:=wA h1 (lfc lf0);have cR:=vA h1 (.row (lfc lf0) .own);have eR:h1.push (.row [(.str []),(.slice none 0 0 0)] .own)=h1.push (.row (lfc lf0) .own):=rfl;have nR:(h1.push (.row (lfc lf0) .own)).next=h1.next+1:=rfl;have x2:=(x.chg cQ).add cR (A:=h1.next) (Nat.le_refl _) (Nat.lt_succ_self _);rw [eR];generalize h1.push (.row (lfc lf0) .own)=h2 at *;have oQ2:=oQ.chg cR (by simp);have c02:=cQ.trans cR;have r2:h2.cell (h.next,0)=some (.ptr (some (P,0))):=oQ2.cell 0;simp only [r2,fA,wB];obtain ⟨h5,e5,c5,x5⟩:=gT (N:=N) hT x2 (k:=3) (by decide);rw [e5,aA];have oQ5:=oQ2.chg c5 (by simp;omega);have oR5:=oR.chg c5 (by simp;omega);have hn5:=c5.next;generalize hnm:(aC T 3 σ).1=nm at *;have oO0:=wA h5 (lfc lf0);have cO0:=vA h5 (.row (lfc lf0) .own);have eO:h5.push (.row [(.str []),(.slice none 0 0 0)] .own)=h5.push (.row (lfc lf0) .own):=rfl;have hstO:(h5.push (.row (lfc lf0) .own)).store (h5.next,0) [(.str nm),(.slice none 0 0 0)]=some ((h5.push (.row (lfc lf0) .own)).put h5.next (.row (lfc (nm,sl0,())) .own)):=oO0.store rfl;rw [eO,hstO,bA];have oO:=iB oO0 (lfc (nm,sl0,()));have cO:Chg [] h5 ((h5.push (.row (lfc lf0) .own)).put h5.next (.row (lfc (nm,sl0,())) .own)):=cO0.put (.inr (Nat.le_refl _)) _;have nO:((h5.push (.row (lfc lf0) .own)).put h5.next (.row (lfc (nm,sl0,())) .own)).next=h5.next+1:=rfl;have x7:=x5.add cO (A:=h5.next) (Nat.le_refl _) (Nat.lt_succ_self _);have oQ7:=oQ5.chg cO (by simp);have oR7:=oR5.chg cO (by simp);generalize (h5.push (.row (lfc lf0) .own)).put h5.next (.row (lfc (nm,sl0,())) .own)=h7 at *;have c07:Chg [P] h h7:=((c02.mono (by simp)).trans c5).trans (cO.mono (by simp));have r7:h7.cell (h.next,0)=some (.ptr (some (P,0))):=oQ7.cell 0;simp only [r7,fA,wB];obtain ⟨h17,e17,c17,x17⟩:=gI (N:=N) hT x7 (w:=[58]) (by decide);rw [e17,aA];have oQ17:=oQ7.chg c17 (by simp;omega);have oO17:=oO.chg c17 (by simp;omega);have oR17:=oR7.chg c17 (by simp;omega);have hn17:=c17.next;have c017:=c07.trans c17;simp only [eY,hnm]
 cases hb:(qB T [58] (aC T 3 σ).2).1 with
 | false=>
  simp only [cond_false,Bool.false_eq_true,if_false];rw [fAi oO17];have cZ:=oR17.put (lfc (nm,sl0,()));exact ⟨(nm,sl0,()),_,pBe oR17 (nm,sl0,()) (fun x h=>some (x,h)),(x17.chg1 cZ (by simp)).sub (by simp +contextual),c017.step cZ (fun A hA hl=>by rw [List.mem_singleton] at hA;omega),mA6 (Sl.nil _ _ _)⟩
 | true=>
  simp only [cond_true,if_true];have r17:h17.cell (h.next,0)=some (.ptr (some (P,0))):=oQ17.cell 0;simp only [r17,fA,wB];have f:CF P (h5.next::h1.next::X) h17 h5.next h.next 1 1 (fun v=>lfc (nm,v,())):=⟨by omega,by omega,by simp,fun v=>rfl,fun v v'=>rfl⟩;obtain ⟨h21,e21,ci⟩:=mAq (N:=N) hT hN f ⟨x17,Chg.refl _ _,oQ17,sl0,oO17,Ow.nil _ _ _ _⟩;rw [e21,aA];obtain ⟨v,oO21,w21⟩:=ci.ex;have hn21:=ci.chg.next;have oR21:=oR17.chg ci.chg (by simp;omega);rw [fAi oO21];have cZ:=oR21.put (lfc (nm,v,()));have c021:Chg [P] h h21:=c017.step ci.chg (fun A hA hl=>by
   simp only [List.mem_cons,List.not_mem_nil,or_false] at hA ⊢;omega)
  refine ⟨(nm,v,()),_,pBe oR21 (nm,v,()) (fun x h=>some (x,h)),(ci.pc.chg1 cZ (by simp)).sub (by simp +contextual),c021.step cZ (fun A hA hl=>by rw [List.mem_singleton] at hA;omega),mA6 ?_⟩;exact (w21.sl.chg cZ (fun C hC=>by simp;omega)).weak (fun C hC _=>by omega)
theorem vB1 (hT:Toks T) (hN:100≤N) {h0:Heap} {O Q:Nat} {row:SL→List AV} (f:CF P X h0 O Q 2 2 row) {xs:List D} {i:Nat} (x:CI T P X st h0 O Q 2 row h xs (i,none)) (hl:xs.length≤64):∃ h',f155 N (some (O,0)) (some (Q,0)) h=some ((),h')∧CI T P X st h0 O Q 2 row h' (xs++[(eY T (i,none)).1]) (eY T (i,none)).2:=by
 unfold f155;obtain ⟨v,o1,w1,y,r1,r2⟩:=x.open f;obtain ⟨r,h6,e6,x6,c6,d6⟩:=uB1 (N:=N) hT hN y;obtain ⟨H',eK,ci,g1,g2⟩:=x.close f o1 w1 qBe (by decide) (by decide) hl c6 x6 d6 rfl;simp only [bA,Nat.zero_add,r1,r2,fA,qA,wB];rw [e6,aA];have g2':(h6.push (.row [(.str r.1),(.slice r.2.1.a r.2.1.len r.2.1.cap r.2.1.sz)] .own)).cell (O,2)=some (.slice v.a v.len v.cap v.sz):=g2;simp only [pE,r2,g2',g1,r1,rD,cond_true,yC];exact ⟨H',eK _,ci⟩
theorem nAq (hT:Toks T) (hN:100≤N) {h0:Heap} {O Q:Nat} {row:SL→List AV} (f:CF P X h0 O Q 2 2 row) (x:CI T P X st h0 O Q 2 row h0 [] σ):∃ h',bT N (some (P,0)) [44] ((some (O,0)),(some (Q,0)),()) h0=some ((),h')∧CI T P X st h0 O Q 2 row h' (yD T (eY T) [44] σ).1 (yD T (eY T) [44] σ).2:=by
 unfold bT;obtain ⟨o,h',e,y⟩:=kO (N:=N) hT hN (F:=fun h=>f155 N (some (O,0)) (some (Q,0)) h) (one:=eY T) (Inv:=CI T P X st h0 O Q 2 row) (fun h xs σ c=>c.pc) (fun h h' xs σ σ' c d z=>c.step f d z) (fun h xs i c hl=>vB1 hT hN f c hl) (sep:=[44]) (by decide) x;simp only [wP];rw [e];simp only [yB];cases mD o (.exit 0) <;> exact ⟨h',rfl,y⟩
theorem wB1 (hT:Toks T) (hN:100≤N) {h0:Heap} {O Q:Nat} {row:SL→List AV} (f:CF P X h0 O Q 6 3 row) {xs:List D} {i:Nat} (x:CI T P X st h0 O Q 6 row h xs (i,none)) (hl:xs.length≤64):∃ h',f157 N (some (Q,0)) (some (O,0)) h=some ((),h')∧CI T P X st h0 O Q 6 row h' (xs++[(bG T (i,none)).1]) (bG T (i,none)).2:=by
 unfold f157;have hO:=f.o;have hQ:=f.q;obtain ⟨v,o1,w1,y,r1,r2⟩:=x.open f;simp only [bA,r2,fA,wB];obtain ⟨h4,e4,c4,x4⟩:=yH (N:=N) hT y (w:=[109,117,116]) (by decide);rw [e4,aA];have r4:h4.cell (Q,0)=some (.ptr (some (P,0))):=(x.q.chg c4 (by simp;omega)).cell 0;simp only [r4,fA,wB];obtain ⟨r,h8,e8,x8,c8,d8,nm,t,hr,hf,dt⟩:=qAe (N:=N) hT hN x4;rw [e8,aA];have hn0:=x.chg.next;have hn4:=c4.next;have hn8:=c8.next;have hnm:nm=(aC T 1 (qB T [109,117,116] (i,none)).2).1:=by
  simp only [aH,fdD,D.t.injEq,List.cons.injEq,D.s.injEq,true_and,and_true] at hf;exact hf.symm
 have oA0:=wA h8 (fdc fd0);have cA0:=vA h8 (.row (fdc fd0) .own);have eA:h8.push (.row [(.bool false),(.str []),(.int .i64 0),(.str []),(.slice none 0 0 0),(.slice none 0 0 0)] .own)=h8.push (.row (fdc fd0) .own):=rfl;rw [eA,jAq oA0 r,bA];have oA1:=iB oA0 (fdc r);have cA1:Chg [] h8 ((h8.push (.row (fdc fd0) .own)).put h8.next (.row (fdc r) .own)):=cA0.put (.inr (Nat.le_refl _)) _;generalize hm:(qB T [109,117,116] (i,none)).1=m at *;have hst:((h8.push (.row (fdc fd0) .own)).put h8.next (.row (fdc r) .own)).store (h8.next,0) [.bool m]=some (((h8.push (.row (fdc fd0) .own)).put h8.next (.row (fdc r) .own)).put h8.next (.row (fdc (eA2 m nm t)) .own)):=by
  rw [hr] at oA1 ⊢;exact oA1.store1 (j:=0) (by show 0<6;omega) _
 simp only [Nat.add_zero];rw [hst,bA];have oA2:=iB oA1 (fdc (eA2 m nm t));have cA2:Chg [] h8 (((h8.push (.row (fdc fd0) .own)).put h8.next (.row (fdc r) .own)).put h8.next (.row (fdc (eA2 m nm t)) .own)):=cA1.put (.inr (Nat.le_refl _)) _;generalize ((h8.push (.row (fdc fd0) .own)).put h8.next (.row (fdc r) .own)).put h8.next (.row (fdc (eA2 m nm t)) .own)=h11 at *;have x11:=x8.chg cA2;have c11:Chg [P] h h11:=(c4.trans c8).trans (cA2.mono (by simp));have dd:Dt h11 (fun C=>h.next≤C) (fdD m nm (fL T 64 (eD T [58] (aC T 1 (qB T [109,117,116] (i,none)).2).2)).1) (fdc (eA2 m nm t)):=dB9 ((dt.chg cA2 (by simp)).weak (fun C hC _=>by omega));obtain ⟨H',eK,ci,g1,g2⟩:=x.close f o1 w1 eB9 (by decide) (by decide) hl c11 x11 dd rfl;simp only [Nat.zero_add,g1,fA,qA];rw [iAq oA2];have hp:(bG T (i,none))=(fdD m nm (fL T 64 (eD T [58] (aC T 1 (qB T [109,117,116] (i,none)).2).2)).1,(aH T (qB T [109,117,116] (i,none)).2).2):=by
  simp only [bG,aH,hm,hnm]
 rw [hp];exact ⟨H',eK _,ci⟩
theorem uAe (hT:Toks T) (hN:100≤N) {h0:Heap} {O Q:Nat} {row:SL→List AV} (f:CF P X h0 O Q 6 3 row) (x:CI T P X st h0 O Q 6 row h0 [] σ):∃ h',cT N (some (P,0)) [44] ((some (Q,0)),(some (O,0)),()) h0=some ((),h')∧CI T P X st h0 O Q 6 row h' (yD T (bG T) [44] σ).1 (yD T (bG T) [44] σ).2:=by
 unfold cT;obtain ⟨o,h',e,y⟩:=kO (N:=N) hT hN (F:=fun h=>f157 N (some (Q,0)) (some (O,0)) h) (one:=bG T) (Inv:=CI T P X st h0 O Q 6 row) (fun h xs σ c=>c.pc) (fun h h' xs σ σ' c d z=>c.step f d z) (fun h xs i c hl=>wB1 hT hN f c hl) (sep:=[44]) (by decide) x;simp only [yP];rw [e];simp only [yB];cases mD o (.exit 0) <;> exact ⟨h',rfl,y⟩
end
end Qp
namespace Qp
def fJ (T:List Tok):Nat→St→List Bs×St
 | 0,σ=>let b:=qB T [46] σ;if b.1=true then ([],cF T 5 b.2) else ([],b.2)
 | g+1,σ=>
  let b:=qB T [46] σ
  if b.1=true then
   let c:=qB T [42] b.2
   if c.1=true then ([42]::(fJ T g c.2).1,(fJ T g c.2).2)
   else let x:=aC T 1 c.2;(x.1::(fJ T g x.2).1,(fJ T g x.2).2)
  else ([],b.2)
def dF (T:List Tok) (σ:St):D×St:=
 let a:=aC T 1 σ
 let p:=fJ T 64 a.2
 (vL a.1 (p.1.map D.s),p.2)
def pl0:D:=vL [] []
def opD (k n:Int) (pl:D):D:=.t [.i k,.i n,pl]
def op0:D:=opD 0 0 pl0
def eF (T:List Tok) (σ:St):D×St:=
 let a:=qB T [116,114,117,101] σ
 if a.1=true then (opD 2 1 pl0,a.2) else
 let b:=qB T [102,97,108,115,101] a.2
 if b.1=true then (opD 2 0 pl0,b.2) else
 if (tk T b.2.1).1=4 then (opD 1 ((tW (aC T 4 b.2).1 0:Nat):Int) pl0,(aC T 4 b.2).2)
 else (opD 3 0 (dF T b.2).1,(dF T b.2).2)
def bH (T:List Tok) (w:Bs) (σ:St):Bool:=σ.2.isNone&&(decide ((tk T σ.1).1=1)&&(decide ((tk T (σ.1+1)).1=5)&&pB (tk T (σ.1+1)).2.1 w))
section
variable {N:Nat} {T:List Tok} {P:Nat} {X:List Nat} {st:Int} {h:Heap} {σ:St}
theorem oAq (hT:Toks T) {h0:Heap} {O:Nat} {R:zT2} {nm:Bs} (hO:P<O∧O<h0.next) (hX:O∈X):∀ (g M:Nat) (h:Heap) (σ:St) (v:SL) (xs:List Bs),g<M→g≤64→xs.length=64-g→PC T P X h σ st→Chg [P,O] h0 h→h.own O (lfc (nm,v,()))→Ow h0.next h v 1 (xs.map D.s)→
  ∃ v' h',iA6 N M (some (P,0)) R (some (O,0)) h=some (.exit 0,(R,some (O,0),()),h')∧PC T P X h' (fJ T g σ).2 st∧Chg [P,O] h0 h'∧h'.own O (lfc (nm,v',()))∧Ow h0.next h' v' 1 ((xs++(fJ T g σ).1).map D.s):=by
 intro g
 induction g with
 | zero=>
  intro M h σ v xs hM hg hx x c oO w;obtain ⟨M,rfl⟩:∃ m,M=m+1:=⟨M-1,by omega⟩;rw [dW];unfold dT;obtain ⟨h7,e7,c7,x7⟩:=gI (N:=N) hT x (w:=[46]) (by decide);rw [e7,aA];have o7:=oO.chg c7 (by simp;omega);have w7:=w.chg c7 (by intro A hA;rw [List.mem_singleton] at hA;omega);have c07:=c.trans (c7.mono (N:=[P,O]) (by simp));simp only [fJ]
  cases hb:(qB T [46] σ).1 with
  | false=>
   simp only [cond_false,Bool.false_eq_true,if_false];exact ⟨v,h7,rfl,x7,c07,o7,by rw [List.append_nil];exact w7⟩
  | true=>
   simp only [cond_true,if_true];have r7:h7.cell (O,1)=some (.slice v.a v.len v.cap v.sz):=o7.cell 1;have hv:v.len=64:=by rw [w7.len,List.length_map,hx]
   simp only [bA,Nat.zero_add,r7,fA,qA];have hs:=(qF hb).1;rw [hs] at x7 ⊢;obtain ⟨h11,e11,c11,x11⟩:=uA0 (N:=N) x7 v.len;rw [show Int.ofNat v.len=(v.len:Int) from rfl,e11,aA];rw [hv] at x11 ⊢;simp only [Nat.le_refl,if_true,cF,Option.isNone_some,cond_false] at x11 ⊢;exact ⟨v,h11,rfl,x11,c07.trans (c11.mono (by simp)),o7.chg c11 (by simp;omega),by rw [List.append_nil];exact w7.chg c11 (by intro A hA;rw [List.mem_singleton] at hA;omega)⟩
 | succ g ih=>
  intro M h σ v xs hM hg hx x c oO w;obtain ⟨M,rfl⟩:∃ m,M=m+1:=⟨M-1,by omega⟩;rw [dW];unfold dT;obtain ⟨h7,e7,c7,x7⟩:=gI (N:=N) hT x (w:=[46]) (by decide);rw [e7,aA];have o7:=oO.chg c7 (by simp;omega);have w7:=w.chg c7 (by intro A hA;rw [List.mem_singleton] at hA;omega);have c07:=c.trans (c7.mono (N:=[P,O]) (by simp));simp only [fJ]
  cases hb:(qB T [46] σ).1 with
  | false=>
   simp only [cond_false,Bool.false_eq_true,if_false];exact ⟨v,h7,rfl,x7,c07,o7,by rw [List.append_nil];exact w7⟩
  | true=>
   simp only [cond_true,if_true];have r7:h7.cell (O,1)=some (.slice v.a v.len v.cap v.sz):=o7.cell 1;have hv:v.len=64-(g+1):=by rw [w7.len,List.length_map,hx]
   simp only [bA,Nat.zero_add,r7,fA,qA];have hs:=(qF hb).1;rw [hs] at x7 ⊢;obtain ⟨h11,e11,c11,x11⟩:=uA0 (N:=N) x7 v.len;rw [show Int.ofNat v.len=(v.len:Int) from rfl,e11,aA];have z:¬ 64≤v.len:=by omega
   simp only [z,if_false,Option.isNone_none,cond_true] at x11 ⊢;obtain ⟨h13,e13,c13,x13⟩:=gI (N:=N) hT x11 (w:=[42]) (by decide);rw [e13,aA];have c713:=c11.trans c13;have o13:=o7.chg c713 (by simp;omega);have w13:=w7.chg c713 (by intro A hA;rw [List.mem_singleton] at hA;omega);have c013:=c07.trans (c713.mono (N:=[P,O]) (by simp));have hlt:∀ A,v.blk=some A→h0.next≤A∧A<h13.next:=w13.ge;have r13:h13.cell (O,1)=some (.slice v.a v.len v.cap v.sz):=o13.cell 1;have hll:(xs.length+1) * 100≤1073741824:=by omega
   cases hb2:(qB T [42] (σ.1+1,none)).1 with
   | true=>
    simp only [cond_true,if_true,r13,fA,qA];have hs2:=(qF hb2).1;rw [hs2] at x13 ⊢;have xf:=x13.free (X':=v.blk.toList++X) fun A hA=>by
     rcases List.mem_append.1 hA with hA | hA
     ·have:=hlt A (by simpa using hA);omega
     ·exact x13.pa.xl A hA
    obtain ⟨v',H',eK,o',w',c'⟩:=gAq lAp (by decide) c013 o13 (j:=1) rfl w13 hO.2 (pJ h13 _ ([42]:Bs)) rfl (by rw [List.length_map];exact hll);have hM':∀ A∈O::v.blk.toList,A∈v.blk.toList++X:=fun A hA=>by
     rcases List.mem_cons.1 hA with rfl | hA
     ·exact List.mem_append_right _ hX
     ·exact List.mem_append_left _ hA
    have xH:=(xf.chgM c' hM').sub (X':=X) fun A hA=>List.mem_append_right _ hA;have cH:Chg [P,O] h0 H':=c013.step c' fun A hA hl=>by
     rcases List.mem_cons.1 hA with rfl | hA
     ·simp
     ·have:=hlt A (by simpa using hA);omega
    rw [eK];have w'':Ow h0.next H' v' 1 ((xs++[[42]]).map D.s):=by rw [List.map_append];exact w'
    have:=ih M H' _ v' (xs++[[42]]) (by omega) (by omega) (by simp;omega) xH cH o' w''
    simpa only [List.append_assoc,List.singleton_append] using this
   | false=>
    simp only [cond_false,Bool.false_eq_true,if_false,r13,fA,qA];rw [tD hb2] at x13 ⊢;have xf:=x13.free (X':=v.blk.toList++X) fun A hA=>by
     rcases List.mem_append.1 hA with hA | hA
     ·have:=hlt A (by simpa using hA);omega
     ·exact x13.pa.xl A hA
    obtain ⟨h24,e24,c24,x24⟩:=gT (N:=N) hT xf (k:=1) (by decide);rw [e24,aA];have o24:=o13.chg c24 (by simp;omega);have w24:=w13.chg c24 (by intro A hA;rw [List.mem_singleton] at hA;omega);have c024:=c013.trans (c24.mono (N:=[P,O]) (by simp));generalize hxx:(aC T 1 (σ.1+1,none)).1=xx at *;obtain ⟨v',H',eK,o',w',c'⟩:=gAq lAp (by decide) c024 o24 (j:=1) rfl w24 hO.2 (pJ h24 _ xx) rfl (by rw [List.length_map];exact hll);have hM':∀ A∈O::v.blk.toList,A∈v.blk.toList++X:=fun A hA=>by
     rcases List.mem_cons.1 hA with rfl | hA
     ·exact List.mem_append_right _ hX
     ·exact List.mem_append_left _ hA
    have xH:=(x24.chgM c' hM').sub (X':=X) fun A hA=>List.mem_append_right _ hA;have cH:Chg [P,O] h0 H':=c024.step c' fun A hA hl=>by
     rcases List.mem_cons.1 hA with rfl | hA
     ·simp
     ·have:=hlt A (by simpa using hA);omega
    have r24:h24.cell (O,1)=some (.slice v.a v.len v.cap v.sz):=o24.cell 1;have r25:(h24.push (.row [(.str xx)] .own)).cell (O,1)=some (.slice v.a v.len v.cap v.sz):=(o24.chg (vA h24 _) (by simp)).cell 1;simp only [r25,r24,rD,cond_true,yC];rw [eK];have w'':Ow h0.next H' v' 1 ((xs++[xx]).map D.s):=by rw [List.map_append];exact w'
    have:=ih M H' _ v' (xs++[xx]) (by omega) (by omega) (by simp;omega) xH cH o' w''
    simpa only [List.append_assoc,List.singleton_append] using this
theorem vA0 (hT:Toks T) (hN:100≤N) (x:PC T P X h σ st):∃ r h',f221 N (some (P,0)) h=some (r,h')∧PC T P X h' (dF T σ).2 st∧Chg [P] h h'∧Dt h' (fun C=>h.next≤C) (dF T σ).1 (lfc r):=by
 unfold f221;have hP:=x.P_lt;have oR:=wA h (lfc lf0);have cR:=vA h (.row (lfc lf0) .own);have eR:h.push (.row [(.str []),(.slice none 0 0 0)] .own)=h.push (.row (lfc lf0) .own):=rfl;have nR:(h.push (.row (lfc lf0) .own)).next=h.next+1:=rfl;have x1:=x.add cR (A:=h.next) (Nat.le_refl _) (Nat.lt_succ_self _);rw [eR];generalize h.push (.row (lfc lf0) .own)=h1 at *;dsimp only;obtain ⟨h3,e3,c3,x3⟩:=gT (N:=N) hT x1 (k:=1) (by decide);rw [e3,aA];have oR3:=oR.chg c3 (by simp;omega);have hn3:=c3.next;generalize hnm:(aC T 1 σ).1=nm at *;have oO0:=wA h3 (lfc lf0);have cO0:=vA h3 (.row (lfc lf0) .own);have eO:h3.push (.row [(.str []),(.slice none 0 0 0)] .own)=h3.push (.row (lfc lf0) .own):=rfl;have hstO:(h3.push (.row (lfc lf0) .own)).store (h3.next,0) [(.str nm),(.slice none 0 0 0)]=some ((h3.push (.row (lfc lf0) .own)).put h3.next (.row (lfc (nm,sl0,())) .own)):=oO0.store rfl;rw [eO,hstO,bA];have oO:=iB oO0 (lfc (nm,sl0,()));have cO:Chg [] h3 ((h3.push (.row (lfc lf0) .own)).put h3.next (.row (lfc (nm,sl0,())) .own)):=cO0.put (.inr (Nat.le_refl _)) _;have nO:((h3.push (.row (lfc lf0) .own)).put h3.next (.row (lfc (nm,sl0,())) .own)).next=h3.next+1:=rfl;have x5:=x3.add cO (A:=h3.next) (Nat.le_refl _) (Nat.lt_succ_self _);have oR5:=oR3.chg cO (by simp);generalize (h3.push (.row (lfc lf0) .own)).put h3.next (.row (lfc (nm,sl0,())) .own)=h5 at *;obtain ⟨v,h32,e32,x32,c32,oO32,w32⟩:=oAq (N:=N) hT (h0:=h5) (O:=h3.next) (R:=some (h.next,0)) (by omega) (by simp) 64 N h5 _ sl0 [] (by omega) (Nat.le_refl _) rfl x5 (Chg.refl _ _) oO (Ow.nil _ _ _ _);rw [e32];simp only [yB,bA];have hn32:=c32.next;rw [fAi oO32];have oR32:=oR5.chg c32 (by simp;omega);have cZ:=oR32.put (lfc (nm,v,()));have c032:Chg [P] h h32:=(((cR.mono (by simp)).trans c3).trans (cO.mono (by simp))).step c32 (fun A hA hl=>by
  simp only [List.mem_cons,List.not_mem_nil,or_false] at hA ⊢;omega)
 simp only [dF,hnm];rw [List.nil_append] at w32;refine ⟨(nm,v,()),_,pBe oR32 (nm,v,()) (fun x h=>some (x,h)),(x32.chg1 cZ (by simp)).sub (by simp +contextual),c032.step cZ (fun A hA hl=>by rw [List.mem_singleton] at hA;omega),mA6 ?_⟩;exact (w32.sl.chg cZ (fun C hC=>by simp;omega)).weak (fun C hC _=>by omega)
abbrev OpV:=Int×Int×zA3×SL×Unit
def opc (x:OpV):List AV:=[.int .i64 x.1,.int .i64 x.2.1,.str x.2.2.1,SL.av x.2.2.2.1]
theorem gAb {β:Type} (r:OpV) (K:OpV→Option β):iA (.val zE) (some (.agg (opc r))) K=K r:=by
 obtain ⟨k,n,x,s,_⟩:=r;simp [opc,SL.av]
theorem fB9 {H:Heap} {A:Nat} {r:OpV} (o:H.own A (opc r)) {β:Type} (K:OpV→Option β):iA (.val zE) (H.cells (A,0) 4) K=K r:=by
 have:H.cells (A,0) 4=some (.agg (opc r)):=o.cells (j:=0) (m:=4) (Nat.le_refl _)
 rw [this,gAb]
theorem vBc {H:Heap} {A:Nat} {r0:OpV} (o:H.own A (opc r0)) (r:OpV) {β:Type} (K:OpV→Heap→Option β) :
  (uA (H.store (A,0) [.int .i64 r.1,.int .i64 r.2.1,.str r.2.2.1,.slice r.2.2.2.1.a r.2.2.2.1.len r.2.2.2.1.cap r.2.2.2.1.sz]) fun h7=>iA (.val zE) (h7.cells (A,0) 4) fun x8=>K x8 h7)=K r (H.put A (.row (opc r) .own)):=by
 have:H.store (A,0) [.int .i64 r.1,.int .i64 r.2.1,.str r.2.2.1,.slice r.2.2.2.1.a r.2.2.2.1.len r.2.2.2.1.cap r.2.2.2.1.sz]=some (H.put A (.row (opc r) .own)):=o.store rfl
 rw [this,bA,fB9 (iB o _)]
theorem pAq {h:Heap} {V:Nat→Prop} {k n:Int} {pl:D} {p:LfV} (x:Dt h V pl (lfc p)):Dt h V (opD k n pl) (opc (k,n,p.1,p.2.1,())):=
 mAv (kC (a:=[_]) (jAl h V k) (kC (a:=[_]) (jAl h V n) (kC (a:=lfc p) (b:=[]) x (fW h V))))
theorem iH (h:Heap) (V:Nat→Prop):Dt h V pl0 (lfc lf0):=mA6 (Sl.nil _ _ _)
theorem dR (hT:Toks T) (hN:100≤N) (x:PC T P X h σ st):∃ r h',f208 N (some (P,0)) h=some (r,h')∧PC T P X h' (eF T σ).2 st∧Chg [P] h h'∧Dt h' (fun C=>h.next≤C) (eF T σ).1 (opc r):=by
 unfold f208;have hP:=x.P_lt;have oR:=wA h (opc (0,0,[],sl0,()));have cR:=vA h (.row (opc (0,0,[],sl0,())) .own);have eR:h.push (.row [(.int .i64 0),(.int .i64 0),(.str []),(.slice none 0 0 0)] .own)=h.push (.row (opc (0,0,[],sl0,())) .own):=rfl;have nR:(h.push (.row (opc (0,0,[],sl0,())) .own)).next=h.next+1:=rfl;have x1:=x.add cR (A:=h.next) (Nat.le_refl _) (Nat.lt_succ_self _);rw [eR];generalize h.push (.row (opc (0,0,[],sl0,())) .own)=h1 at *;dsimp only;have fin:∀ {h':Heap} {σ':St} (c:Chg [P] h1 h') (y:PC T P (h.next::X) h' σ' st) (o:h'.own h.next (opc (0,0,[],sl0,()))) (r:OpV) {d:D} (_:Dt h' (fun C=>h.next+1≤C) d (opc r)),PC T P X (h'.put h.next (.row (opc r) .own)) σ' st∧Chg [P] h (h'.put h.next (.row (opc r) .own))∧Dt (h'.put h.next (.row (opc r) .own)) (fun C=>h.next≤C) d (opc r):=fun c y o r d hd=>
  ⟨(y.chg1 (o.put (opc r)) (by simp)).sub (by simp +contextual),((cR.mono (by simp)).trans c).put (.inr (Nat.le_refl _)) _,(hd.chg (o.put (opc r)) (fun C hC=>by simp;omega)).weak (fun C hC _=>by omega)⟩
 obtain ⟨h3,e3,c3,x3⟩:=yH (N:=N) hT x1 (w:=[116,114,117,101]) (by decide);rw [e3,aA];have o3:=oR.chg c3 (by simp;omega);simp only [eF]
 cases hb:(qB T [116,114,117,101] σ).1 with
 | true=>
  simp only [cond_true,if_true];obtain ⟨f1,f2,f3⟩:=fin c3 x3 o3 (2,1,[],sl0,()) (pAq (iH h3 _));exact ⟨(2,1,[],sl0,()),_,vBc o3 (2,1,[],sl0,()) (fun x h=>some (x,h)),f1,f2,f3⟩
 | false=>
  simp only [cond_false,Bool.false_eq_true,if_false];obtain ⟨h7,e7,c7,x7⟩:=yH (N:=N) hT x3 (w:=[102,97,108,115,101]) (by decide);rw [e7,aA];have c17:=c3.trans c7;have o7:=o3.chg c7 (by simp;omega)
  cases hb2:(qB T [102,97,108,115,101] (qB T [116,114,117,101] σ).2).1 with
  | true=>
   simp only [cond_true,if_true];obtain ⟨f1,f2,f3⟩:=fin c17 x7 o7 (2,0,[],sl0,()) (pAq (iH h7 _));exact ⟨(2,0,[],sl0,()),_,vBc o7 (2,0,[],sl0,()) (fun x h=>some (x,h)),f1,f2,f3⟩
  | false=>
   simp only [cond_false,Bool.false_eq_true,if_false];generalize (qB T [102,97,108,115,101] (qB T [116,114,117,101] σ).2).2=τ at *;obtain ⟨h11,e11,c11⟩:=iM (N:=N) x7.pa;rw [e11,aA];have x11:=x7.chg c11;have o11:=o7.chg c11 (by simp);have c111:=c17.trans (c11.mono (N:=[P]) (by simp));simp only [tAh,eqI]
   by_cases q:(tk T τ.1).1=4
   ·simp only [q,decide_true,cond_true,if_true]
    obtain ⟨h14,e14,c14,x14⟩:=gT (N:=N) hT x11 (k:=4) (by decide);rw [e14,aA];have o14:=o11.chg c14 (by simp;omega);have at16:∃ u h16,f220 N (aC T 4 τ).1 h14=some ((((tW (aC T 4 τ).1 0:Nat):Int),u,()),h16)∧Chg [] h14 h16:=by
     obtain ⟨i,e⟩:=τ
     cases e with
     | none=>
      have ok:=oB7 hT x7.lt;have hk:=ok.num q;have et:(aC T 4 (i,none)).1=(tk T i).2.1:=by simp only [aC];rw [if_pos q]
      rw [et];obtain ⟨h',e',c'⟩:=kAv (N:=N) (h:=h14) (by omega) hk.1 hk.2;exact ⟨_,h',e',c'⟩
     | some p=>
      have et:(aC T 4 (i,some p)).1=[]:=rfl;rw [et];obtain ⟨u,h',e',c'⟩:=iAl (N:=N) x14.pin;exact ⟨u,h',e',c'⟩
    obtain ⟨u,h16,e16,c16⟩:=at16;rw [e16,aA];have x16:=x14.chg c16;have o16:=o14.chg c16 (by simp);obtain ⟨f1,f2,f3⟩:=fin ((c111.trans c14).trans (c16.mono (by simp))) x16 o16 (1,((tW (aC T 4 τ).1 0:Nat):Int),[],sl0,()) (pAq (iH h16 _));exact ⟨(1,((tW (aC T 4 τ).1 0:Nat):Int),[],sl0,()),_,vBc o16 (1,((tW (aC T 4 τ).1 0:Nat):Int),[],sl0,()) (fun x h=>some (x,h)),f1,f2,f3⟩
   ·simp only [q,decide_false,cond_false,if_false]
    obtain ⟨r,h20,e20,x20,c20,d20⟩:=vA0 (N:=N) hT hN x11;rw [e20,aA];have o20:=o11.chg c20 (by simp;omega);have hn11:=c111.next;obtain ⟨f1,f2,f3⟩:=fin (c111.trans c20) x20 o20 (3,0,r.1,r.2.1,()) (pAq (d20.weak fun C hC _=>by omega));exact ⟨(3,0,r.1,r.2.1,()),_,vBc o20 (3,0,r.1,r.2.1,()) (fun x h=>some (x,h)),f1,f2,f3⟩
theorem vAe (hT:Toks T) (x:PC T P X h σ st) (w:Bs):∃ h',f231 N (some (P,0)) w h=some (bH T w σ,h')∧Chg [] h h':=by
 unfold f231;obtain ⟨v,k3,hv⟩:=x.pa.readE;simp only [bA,Nat.zero_add,k3,fA,wD,hv.ne 9,jB,bH]
 cases hn:σ.2 with
 | some q=>simp only [Option.isSome_some,cond_true,Option.isNone_some,Bool.false_and];exact ⟨_,rfl,Chg.refl _ _⟩
 | none=>
  simp only [Option.isSome_none,cond_false,Option.isNone_none,Bool.true_and];obtain ⟨h5,e5,c5⟩:=iM (N:=N) x.pa;rw [e5,aA];simp only [tAh,eqI]
  by_cases q:(tk T σ.1).1=1
  ·simp only [q,decide_true,Bool.not_true,cond_false,Bool.true_and]
   have hnx:=jAp hT x.lt (by rw [q];decide);have x5:=x.pa.chg c5;obtain ⟨⟨s,v',g1,g2,g3,g4⟩,g5,g6⟩:=x5;have k0:h5.cell (P,0)=some (.slice s.a s.len s.cap s.sz):=g1.cell 0;have k1:h5.cell (P,1)=some (.int .i64 (σ.1:Int)):=g1.cell 1;obtain ⟨d1,d2,d3⟩:=fA6 g2 g3 hnx;simp only [Nat.add_zero,k0,k1,fA,qA,kB];rw [gB0 hT x.lt,oA3 d2 d3,d1,fBg];obtain ⟨h8,e8,c8,o8⟩:=vAh h5 (tk T (σ.1+1));have c7:=vA h5 (.row [(.int .i64 0),(.str []),(.int .i64 0)] .own);have g1':=g1.chg c7 (by simp);have t0:(h5.push (.row [(.int .i64 0),(.str []),(.int .i64 0)] .own)).cell (P,0)=some (.slice s.a s.len s.cap s.sz):=g1'.cell 0;have t1:(h5.push (.row [(.int .i64 0),(.str []),(.int .i64 0)] .own)).cell (P,1)=some (.int .i64 (σ.1:Int)):=g1'.cell 1;have t2:=(fA6 (g2.chg c7 (by simp)) g3 hnx).1;simp only [tAh] at e8;rw [e8];simp only [bA,tkc] at t2 d1 ⊢;simp only [t0,t1,t2,k0,k1,d1,rD,cond_true,yC];have q0:h8.cell (h5.next,0)=some (.int .i64 (tk T (σ.1+1)).1):=o8.cell 0;have q1:h8.cell (h5.next,1)=some (.str (tk T (σ.1+1)).2.1):=o8.cell 1;simp only [q0,q1,fA,kB,mB]
   by_cases z5:(tk T (σ.1+1)).1=5
   ·simp only [z5,decide_true,cond_true,Bool.true_and];exact ⟨_,rfl,c5.trans c8⟩
   ·simp only [z5,decide_false,cond_false,Bool.false_and];exact ⟨_,rfl,c5.trans c8⟩
  ·simp only [q,decide_false,Bool.not_false,cond_true,Bool.false_and]
   exact ⟨_,rfl,c5⟩
def jH (T:List Tok) (σ:St):Bool:=bH T [58,58] σ||bH T [40] σ
theorem qAq (hT:Toks T) (x:PC T P X h σ st):∃ h',f222 N (some (P,0)) h=some (jH T σ,h')∧Chg [] h h':=by
 unfold f222 jH;obtain ⟨h2,e2,c2⟩:=vAe (N:=N) hT x [58,58];rw [e2,aA]
 cases hb:bH T [58,58] σ with
 | true=>simp only [cond_true,Bool.true_or];exact ⟨_,rfl,c2⟩
 | false=>
  simp only [cond_false,Bool.false_or];obtain ⟨h4,e4,c4⟩:=vAe (N:=N) hT (x.chg c2) [40];rw [e4,aA];exact ⟨_,rfl,c2.trans c4⟩
end
end Qp
namespace Ai
def OwV (V:Nat→Prop) (h:Heap) (s:SL) (n:Nat) (xs:List D):Prop:=
 (s.a=none∧s.len=0∧s.cap=0∧xs=[])∨
 ∃ A cs st vs,s.a=some (A,0)∧s.sz=n∧V A∧A<h.next∧h.g A=some (.row cs st)∧s.len=xs.length∧cs.take vs.length=vs∧De h (fun C=>V C∧C≠A) n xs vs∧s.len≤s.cap∧(st=.grown∨(st=.own∧s.cap * n=cs.length))
section
variable {E:Env} {V:Nat→Prop} {h h':Heap} {s:SL} {n:Nat} {xs:List D} {M:List Nat}
theorem OwV.weak {W:Nat→Prop} (x:OwV V h s n xs) (hW:∀ C,V C→C<h.next→W C):OwV W h s n xs:=by
 rcases x with h1 | ⟨A,cs,st,vs,h1,h2,h3,h4,h5,h6,h7,h8,h9⟩
 ·exact .inl h1
 ·exact .inr ⟨A,cs,st,vs,h1,h2,hW A h3 h4,h4,h5,h6,h7,De.weak (fun C hC hl=>⟨hW C hC.1 hl,hC.2⟩) h8,h9⟩
theorem OwV.nil (V:Nat→Prop) (h:Heap) (z n:Nat):OwV V h ⟨none,0,0,z⟩ n []:=.inl ⟨rfl,rfl,rfl,rfl⟩
theorem OwV.len (x:OwV V h s n xs):s.len=xs.length:=by
 rcases x with ⟨_,h1,_,rfl⟩ | ⟨A,cs,st,vs,_,_,_,_,_,h1,_⟩
 ·exact h1
 ·exact h1
theorem OwV.ge (x:OwV V h s n xs):∀ A,s.blk=some A→V A∧A<h.next:=by
 intro A hA;rcases x with ⟨h1,_⟩ | ⟨A',cs,st,vs,h1,_,h3,h4,_⟩
 ·simp [SL.blk,h1] at hA
 ·simp [SL.blk,h1] at hA;subst hA;exact ⟨h3,h4⟩
theorem OwV.sl (x:OwV V h s n xs):Sl h V s xs:=by
 rcases x with ⟨h1,h2,h3,rfl⟩ | ⟨A,cs,st,vs,h1,h2,h3,h4,h5,h6,h7,h8,h9,h10⟩
 ·exact ⟨h2,by omega,fun A hA=>by simp [SL.blk,h1] at hA,[],⟨by simp [h2],fun _=>h2,fun A off ha=>by rw [h1] at ha;cases ha⟩,by simp [De]⟩
 ·refine ⟨h6,h9,fun C hC=>?_,vs,⟨?_,fun ha=>(by rw [h1] at ha;cases ha),fun A' off ha=>?_⟩,?_⟩
  ·simp [SL.blk,h1] at hC;subst hC;exact h3
  ·rw [h8.length,h6,h2]
  ·rw [h1] at ha
   simp only [Option.some.injEq,Prod.mk.injEq] at ha;obtain ⟨rfl,rfl⟩:=ha;refine ⟨h4,cs,?_,by rw [List.drop_zero];exact h7⟩;rw [h5];rcases h10 with rfl | ⟨rfl,_⟩ <;> rfl
  ·rw [h2];exact De.weak (fun C hC _=>hC.1) h8
theorem OwV.chg (x:OwV V h s n xs) (c:Chg M h h') (hM:∀ A,V A→A<h.next→A ∉ M):OwV V h' s n xs:=by
 rcases x with h1 | ⟨A,cs,st,vs,h1,h2,h3,h4,h5,h6,h7,h8,h9⟩
 ·exact .inl h1
 ·refine .inr ⟨A,cs,st,vs,h1,h2,h3,Nat.lt_of_lt_of_le h4 c.next,by rw [c.g A h4 (hM A h3 h4)];exact h5,h6,h7,?_,h9⟩
  have h8':De h (fun C=>(V C∧C≠A)∧C<h.next) n xs vs:=De.weak (fun C hC hl=>⟨hC,hl⟩) h8;exact De.weak (fun C hC _=>hC.1) (De.chg c (fun C hC=>hM C hC.1.1 hC.2) h8')
theorem lO {st e:TypeId} {W:Nat} (ha:AppN E st e n W) (hn:0<n) (x:OwV V h s n xs) {d:D} {cs:List AV} (hd:Dt h (fun C=>V C∧s.blk≠some C) d cs) (hcs:cs.length=n) (hB:∀ A,h.next≤A→V A) (hl:(xs.length+1) * W≤1073741824) :
  ∃ s' h',pC E st st (.slice s.a s.len s.cap s.sz) (.slice (some (h.next,0)) 1 1 n) (h.push (.row cs .own))=some (.slice s'.a s'.len s'.cap s'.sz,h')∧OwV V h' s' n (xs++[d])∧Chg (s.blk.toList) h h'∧(∀ A,s'.blk=some A→s.blk=some A∨h.next≤A):=by
 obtain ⟨hu,⟨i,hi,hi1,hi2⟩,⟨z,hz,hz1⟩⟩:=ha;have hr:(h.push (.row cs .own)).read h.next 0 (1 * n)=some cs:=by
  have:(h.push (.row cs .own)).row h.next=some cs:=(Heap.is_push h cs).row
  simp only [Heap.read,this,List.drop_zero,Nat.one_mul];rw [cL _ _ (by omega),List.take_of_length_le (by omega)]
 have hlen:=x.len;have hroom:Nat.ble ((s.len+1) * (i.bytes+i.size+1)) nW=true:=by
  have h1:(s.len+1) * (i.bytes+i.size+1)≤(xs.length+1) * W:=Nat.mul_le_mul (by omega) (by omega);simp only [nW,Nat.ble_eq];omega
 have hsz:(Nat.beq s.sz i.size||s.a.isNone)=true:=by
  rcases x with ⟨h1,_⟩ | ⟨A,cs,st',vs,h1,h2,_⟩
  ·simp [h1]
  ·simp [hi1,h2]
 have hall:cs.all AV.single=true:=by rw [List.all_eq_true];exact hd.single
 have key:∀ K,gQ (h.push (.row cs .own)) s.a s.len s.cap n 1 cs=K→pC E st st (.slice s.a s.len s.cap s.sz) (.slice (some (h.next,0)) 1 1 n) (h.push (.row cs .own))=K:=by
  intro K hK;have hz2:Nat.beq z.cells.length i.size=true:=by rw [hz1,hi1];exact Nat.beq_refl _
  have hnl:Nat.beq cs.length (1 * i.size)=true:=by rw [hi1,hcs,Nat.one_mul];exact Nat.beq_refl _
  simp only [pC,hu,eV,pAg,cond_false,hi,hz,fM,yE];rw [hi1] at hroom hsz hz2 hnl ⊢;simp only [hr,show Nat.beq 1 0=false from rfl,cond_false,hroom,hsz,hz2,hnl,hall,Bool.and_self,cond_true];exact hK
 have hd0:Dt h (fun C=>(V C∧s.blk≠some C)∧C<h.next) d cs:=hd.weak fun C hC hl=>⟨hC,hl⟩;rcases x with ⟨h1,h2,h3,rfl⟩ | ⟨A,bs,st',vs,h1,h2,h3,h4,h5,h6,h7,h8,h9,h10⟩
 ·have c0:Chg [] h ((h.push (.row cs .own)).push (.row cs .grown)):=((Chg.refl [] h).push _).push _
  refine ⟨⟨some (h.next+1,0),1,1,n⟩,(h.push (.row cs .own)).push (.row cs .grown),key _ (by simp only [gQ,h1,h2];rfl),.inr ⟨h.next+1,cs,.grown,cs,rfl,rfl,hB _ (by omega),by simp,kK _ rfl,rfl,by simp,?_,Nat.le_refl _,.inl rfl⟩,c0.mono (by simp),fun A hA=>.inr (by simp [SL.blk] at hA;omega)⟩;simp only [List.nil_append,De];exact ⟨cs,[],by simp,hcs,Dt.weak (fun C hC _=>⟨hC.1.1,by omega⟩) (Dt.chg c0 (by simp) hd0),rfl⟩
 ·have hvl:=h8.length
  have hbl:s.blk=some A:=by simp [SL.blk,h1]
  have hcl:vs.length≤bs.length:=by
   have:(bs.take vs.length).length=vs.length:=by rw [h7]
   rw [List.length_take] at this;omega
  have hg:(h.push (.row cs .own)).t.get A=some (.row bs st'):=by
   have:=qZ (h:=h) (A:=A) (.row cs .own) (by omega)
   unfold Heap.g at this h5;rw [this,h5]
  have h8':De h (fun C=>(V C∧C≠A)∧C<h.next) n xs vs:=De.weak (fun C hC hl=>⟨hC,hl⟩) h8;have hd':Dt h (fun C=>(V C∧C≠A)∧C<h.next) d cs:=Dt.weak (fun C hC hl=>⟨⟨hC.1,fun e=>hC.2 (by rw [hbl,e])⟩,hl⟩) hd;have hall2:=h8'.snoc hd' hcs;have htk:takeN (s.len * n) bs=some vs:=by rw [cL _ _ (by rw [h6];omega),h6,← hvl,h7]
  -- a new block
  have fresh:∀ H:Heap,H.next=h.next+1→Chg [A] h H→OwV V (H.push (.row (vs++cs) .grown)) ⟨some (h.next+1,0),s.len+1,s.len+1,n⟩ n (xs++[d]):=by
   intro H hH cH;refine .inr ⟨h.next+1,vs++cs,.grown,vs++cs,rfl,rfl,hB _ (by omega),by simp [hH],kK _ hH.symm,by simp [h6],List.take_of_length_le (Nat.le_refl _),?_,Nat.le_refl _,.inl rfl⟩;exact De.weak (fun C hC _=>⟨hC.1.1,by omega⟩) (De.chg (cH.push _) (fun C hC=>by simp;exact hC.1.2) hall2)
  rcases h10 with rfl | ⟨rfl,h10⟩
  ·have cH:Chg [A] h ((h.push (.row cs .own)).put A (.row bs .dead)):=((Chg.refl [A] h).push _).put (.inl (by simp)) _
   refine ⟨⟨some (h.next+1,0),s.len+1,s.len+1,n⟩,((h.push (.row cs .own)).put A (.row bs .dead)).push (.row (vs++cs) .grown),key _ ?_,fresh _ rfl cH,(cH.push _).mono (by simp [hbl]),fun C hC=>.inr (by simp [SL.blk] at hC;omega)⟩;simp only [gQ,h1,hg,List.drop_zero,htk];rfl
  ·by_cases hc:s.len+1≤s.cap
   ·have hb1:Nat.ble (s.len+1) s.cap=true:=by simpa using hc
    have hroom2:s.len * n+cs.length≤bs.length:=by
     rw [hcs,← Nat.succ_mul,← h10];exact Nat.mul_le_mul_right _ hc
    have hov:=lAd bs cs (s.len * n) hroom2;have cH:Chg [A] h ((h.push (.row cs .own)).put A (.row (bs.take (s.len * n)++cs++bs.drop (s.len * n+cs.length)) .own)):=((Chg.refl [A] h).push _).put (.inl (by simp)) _;have e1:bs.take (s.len * n)=vs:=by rw [h6,← hvl,h7]
    refine ⟨⟨some (A,0),s.len+1,s.cap,n⟩,_,key _ ?_,.inr ⟨A,_,.own,vs++cs,rfl,rfl,h3,by simp;omega,lA5 _ rfl,by simp [h6],?_,?_,hc,.inr ⟨rfl,?_⟩⟩,cH.mono (by simp [hbl]),fun C hC=>.inl (by simp [SL.blk] at hC;rw [hbl,hC])⟩
    ·simp only [gQ,h1,hg,List.drop_zero,htk,hb1,cond_true,Nat.zero_add,hov]
    ·rw [e1,List.append_assoc,← List.append_assoc,List.take_append_of_le_length (Nat.le_refl _),List.take_of_length_le (Nat.le_refl _)]
    ·exact De.weak (fun C hC _=>hC.1) (De.chg cH (fun C hC=>by simp;exact hC.1.2) hall2)
    ·show s.cap * n=_
     rw [h10];simp only [List.length_append,List.length_take,List.length_drop];omega
   ·have hb1:Nat.ble (s.len+1) s.cap=false:=by
     cases hx:Nat.ble (s.len+1) s.cap with
     | false=>rfl
     | true=>exact absurd (by simpa using hx) hc
    have cH:Chg [A] h (h.push (.row cs .own)):=(Chg.refl [A] h).push _;refine ⟨⟨some (h.next+1,0),s.len+1,s.len+1,n⟩,(h.push (.row cs .own)).push (.row (vs++cs) .grown),key _ ?_,fresh _ rfl cH,(cH.push _).mono (by simp [hbl]),fun C hC=>.inr (by simp [SL.blk] at hC;omega)⟩;simp only [gQ,h1,hg,List.drop_zero,htk,hb1,cond_false];rfl
end
end Ai
namespace Qp
section
variable {T:List Tok} {P:Nat} {X:List Nat} {st:Int} {h0 h h' h6:Heap} {O Q n j:Nat} {row:SL→List AV} {xs:List D} {σ σ':St}
theorem CI.close2 {i:Nat} (f:CF P X h0 O Q n j row) (x:CI T P X st h0 O Q n row h xs (i,none)) {v:SL} (o1:h.own O (row v)) (w1:Ow h0.next h v n xs) {t e:TypeId} {W:Nat} (ha:AppN E t e n W) (hn:0<n) (hW:W≤10000000) (hl:xs.length≤64) (c:Chg [P] h h6) (y:PC T P (v.blk.toList++X) h6 σ' st) {d:D} {cs:List AV} (hd:Dt h6 (fun C=>h.next≤C) d cs) (hcs:cs.length=n) :
  ∃ v' h13,(∀ {β:Type} (K:SL→Heap→Option β),fG (.val zV2) (pC E t t (.slice v.a v.len v.cap v.sz) (.slice (some (h6.next,0)) 1 1 n) (h6.push (.row cs .own))) K=K v' h13)∧h13.store (O,j) [.slice v'.a v'.len v'.cap v'.sz]=some (h13.put O (.row (row v') .own))∧CI T P X st h0 O Q n row (h13.put O (.row (row v') .own)) (xs++[d]) σ'∧h6.cell (O,j)=some (.slice v.a v.len v.cap v.sz)∧(h6.push (.row cs .own)).cell (O,j)=some (.slice v.a v.len v.cap v.sz)∧Chg v.blk.toList h6 h13∧(∀ A∈v.blk.toList,h0.next≤A):=by
 have hO:=f.o;have hQ:=f.q;have hlt:∀ A,v.blk=some A→h0.next≤A∧A<h.next:=w1.ge;have c06:Chg [P,O] h0 h6:=x.chg.trans (c.mono (by simp));have o6:h6.own O (row v):=o1.chg c (by simp;omega);have w6:Ow h0.next h6 v n xs:=w1.chg c (by intro A hA;rw [List.mem_singleton] at hA;omega);have hn0:=x.chg.next;have hd6:Dt h6 (fun C=>h0.next≤C∧v.blk≠some C) d cs:=hd.weak fun C hC _=>⟨by omega,fun e=>by have:=hlt C e;omega⟩;have hll:(xs.length+1) * W≤1073741824:=by
  have:(xs.length+1) * W≤65 * 10000000:=Nat.mul_le_mul (by omega) hW
  omega
 obtain ⟨v',h13,e',w',c',hb⟩:=fAq ha hn c06 w6 hd6 hcs hll;have hge:∀ A∈v.blk.toList,h0.next≤A∧A<h.next:=fun A hA=>hlt A (by simpa using hA);have o13:h13.own O (row v):=o6.chg c' (fun hm=>by have:=hge O hm;omega);have hjl:j<(row v).length:=(List.getElem?_eq_some_iff.1 (f.rj v)).1;have hst:h13.store (O,j) [SL.av v']=some (h13.put O (.row ((row v).set j (SL.av v')) .own)):=o13.store1 hjl _;rw [f.rs] at hst;have cp:=o13.put (row v');have y13:=y.chgM c' (fun A hA=>List.mem_append_left _ hA);have y':=y13.chg1 cp (List.mem_append_right _ f.x);have c013:Chg [P,O] h0 h13:=c06.step c' (fun A hA hlt'=>by have:=hge A hA;omega);refine ⟨v',h13,fun K=>e' K,hst,⟨y'.sub fun A hA=>List.mem_append_right _ hA,c013.trans (cp.mono (by simp)),((x.q.chg c (by simp;omega)).chg c' fun hm=>?_).chg cp (by simp;omega),v',iB o13 _,w'.chg cp (by intro A hA;rw [List.mem_singleton] at hA;omega)⟩,by rw [o6.cell j,f.rj v];rfl,by rw [(o6.chg (vA h6 _) (by simp)).cell j,f.rj v];rfl,c',fun A hA=>(hge A hA).1⟩
 have:=hge Q hm;omega
end
def iT (T:List Tok) (σ:St):List D×St:=
 let b:=qB T [41] (eD T [40] σ)
 if b.1=true then ([],b.2) else let l:=yD T (eF T) [44] b.2;(l.1,eD T [41] l.2)
def wA0 (T:List Tok) (σ:St):D×St:=
 let a:=aC T 1 σ
 let o:=eF T (eD T [58] a.2)
 (.t [.s a.1,o.1],o.2)
def rU (T:List Tok) (σ:St):List D×St:=
 let b:=qB T [125] (eD T [123] σ)
 if b.1=true then ([],b.2) else let l:=yD T (wA0 T) [44] b.2;(l.1,eD T [125] l.2)
def d1:D→D | .t (a::_)=>a | _=>.i 0
def d2:D→D | .t (_::b::_)=>b | _=>.i 0
theorem cAy:AppN E 102 101 4 1000:=AppN.of (by kernel_rfl)
structure CVI (T:List Tok) (P:Nat) (X:List Nat) (st:Int) (h0:Heap) (O Q V off n:Nat) (row:SL→List AV) (h:Heap) (xs:List D) (σ:St):Prop where
 ci:CI T P X st h0 O Q n row h xs σ
 v:h.own V [.ptr (some (O,off))]
section
variable {N:Nat} {T:List Tok} {P:Nat} {X:List Nat} {st:Int} {h:Heap} {σ:St}
theorem aQ (P:zT2) (sep:Bs) (V Q:zT2):∀ (M:Nat) (n:Int) (h:Heap),uL N M P sep (V,Q,()) n h=kM N P sep (fun h=>f235 N V Q h) M n h
 | 0,n,h=>rfl
 | M+1,n,h=>by
  rw [cX];unfold tL;simp only [kM];simp only [aQ P sep V Q M]
theorem bQ (P:zT2) (sep:Bs) (V Q:zT2):∀ (M:Nat) (n:Int) (h:Heap),rL N M P sep (V,Q,()) n h=kM N P sep (fun h=>f256 N V Q h) M n h
 | 0,n,h=>rfl
 | M+1,n,h=>by
  rw [bX];unfold qL;simp only [kM];simp only [bQ P sep V Q M]
theorem yB1 (hT:Toks T) (hN:100≤N) {h0:Heap} {O Q V off:Nat} {row:SL→List AV} (f:CF P X h0 O Q 4 (off+14) row) (hV:V≠P∧V≠O∧V<h0.next) {xs:List D} {i:Nat} (x:CVI T P X st h0 O Q V off 4 row h xs (i,none)) (hl:xs.length≤64):∃ h',f235 N (some (V,0)) (some (Q,0)) h=some ((),h')∧CVI T P X st h0 O Q V off 4 row h' (xs++[(eF T (i,none)).1]) (eF T (i,none)).2:=by
 unfold f235;obtain ⟨v,o1,w1,y,r1,r2⟩:=x.ci.open f;obtain ⟨r,h6,e6,x6,c6,d6⟩:=dR (N:=N) hT hN y;obtain ⟨v',h13,eA,eS,ci,g1,g2,cB,hge⟩:=x.ci.close2 f o1 w1 cAy (by decide) (by decide) hl c6 x6 d6 rfl;have vV6:=x.v.chg c6 (by simp;omega);have vV11:=vV6.chg (vA h6 (.row (opc r) .own)) (by simp);have vV13:=vV6.chg cB (fun hm=>by have:=hge V hm;omega);have k0:h.cell (V,0)=some (.ptr (some (O,off))):=x.v.cell 0;have k6:h6.cell (V,0)=some (.ptr (some (O,off))):=vV6.cell 0;have k11:(h6.push (.row [(.int .i64 r.1),(.int .i64 r.2.1),(.str r.2.2.1),(.slice r.2.2.2.1.a r.2.2.2.1.len r.2.2.2.1.cap r.2.2.2.1.sz)] .own)).cell (V,0)=some (.ptr (some (O,off))):=vV11.cell 0;have k13:h13.cell (V,0)=some (.ptr (some (O,off))):=vV13.cell 0;have g2':(h6.push (.row [(.int .i64 r.1),(.int .i64 r.2.1),(.str r.2.2.1),(.slice r.2.2.2.1.a r.2.2.2.1.len r.2.2.2.1.cap r.2.2.2.1.sz)] .own)).cell (O,off+14)=some (.slice v.a v.len v.cap v.sz):=g2;have eA':∀ {β:Type} (K:SL→Heap→Option β),fG (.val zV2) (pC E 102 102 (.slice v.a v.len v.cap v.sz) (.slice (some (h6.next,0)) 1 1 4) (h6.push (.row [(.int .i64 r.1),(.int .i64 r.2.1),(.str r.2.2.1),(.slice r.2.2.2.1.a r.2.2.2.1.len r.2.2.2.1.cap r.2.2.2.1.sz)] .own))) K=K v' h13:=eA;simp only [bA,k0,r1,r2,fA,qA,wB];rw [e6,aA];rw [eA',eS,bA];simp only [pE,r2,g2',g1,r1,k0,k6,k11,k13,rD,cond_true,yC];exact ⟨_,rfl,ci,vV13.chg (by
  obtain ⟨_,o13,_⟩:=ci.ex;exact (Chg.refl [O] h13).put (.inl (by simp)) _) (by simp;omega)⟩
theorem rAq (hT:Toks T) (hN:100≤N) {h0:Heap} {O Q V off:Nat} {row:SL→List AV} (f:CF P X h0 O Q 4 (off+14) row) (hV:V≠P∧V≠O∧V<h0.next) (x:CVI T P X st h0 O Q V off 4 row h0 [] σ):∃ h',dY N (some (P,0)) [44] ((some (V,0)),(some (Q,0)),()) h0=some ((),h')∧CVI T P X st h0 O Q V off 4 row h' (yD T (eF T) [44] σ).1 (yD T (eF T) [44] σ).2:=by
 unfold dY;obtain ⟨o,h',e,y⟩:=kO (N:=N) hT hN (F:=fun h=>f235 N (some (V,0)) (some (Q,0)) h) (one:=eF T) (Inv:=CVI T P X st h0 O Q V off 4 row) (fun h xs σ c=>c.ci.pc) (fun h h' xs σ σ' c d z=>⟨c.ci.step f d z,c.v.chg d (by simp;omega)⟩) (fun h xs i c hl=>yB1 hT hN f hV c hl) (sep:=[44]) (by decide) x;simp only [aQ];rw [e];simp only [yB];cases mD o (.exit 0) <;> exact ⟨h',rfl,y⟩
theorem tAq (hT:Toks T) (hN:100≤N) (x:PC T P X h σ st) {O off:Nat} {row:SL→List AV} (hO:P<O) (hX:O∈X) (rj:∀ v,(row v)[off+14]? = some (SL.av v)) (rs:∀ v v',(row v).set (off+14) (SL.av v')=row v') (oO:h.own O (row sl0)):∃ v h',f223 N (some (P,0)) (some (O,off)) h=some ((),h')∧PC T P X h' (iT T σ).2 st∧Chg [P,O] h h'∧h'.own O (row v)∧Sl h' (fun C=>h.next≤C) v (iT T σ).1:=by
 unfold f223;have hP:=x.P_lt;have hOl:=oO.2;have oQ:=wA h [AV.ptr (some (P,0))];have cQ:=vA h (.row [AV.ptr (some (P,0))] .own);have nQ:(h.push (.row [AV.ptr (some (P,0))] .own)).next=h.next+1:=rfl;dsimp only;generalize h.push (.row [AV.ptr (some (P,0))] .own)=h1 at *;have oV:=wA h1 [AV.ptr (some (O,off))];have cV:=vA h1 (.row [AV.ptr (some (O,off))] .own);have nV:(h1.push (.row [AV.ptr (some (O,off))] .own)).next=h1.next+1:=rfl;have x2:=x.chg (cQ.trans cV);have oQ2:=oQ.chg cV (by simp);have oO2:=oO.chg (cQ.trans cV) (by simp);have c02:=cQ.trans cV;generalize h1.push (.row [AV.ptr (some (O,off))] .own)=h2 at *;have r2:h2.cell (h.next,0)=some (.ptr (some (P,0))):=oQ2.cell 0;simp only [r2,fA,wB];obtain ⟨h5,e5,c5,x5⟩:=rF (N:=N) hT x2 (w:=[40]) (by decide);rw [e5,aA];have oQ5:=oQ2.chg c5 (by simp;omega);have r5:h5.cell (h.next,0)=some (.ptr (some (P,0))):=oQ5.cell 0;simp only [r5,fA,wB];obtain ⟨h8,e8,c8,x8⟩:=gI (N:=N) hT x5 (w:=[41]) (by decide);rw [e8,aA];have c58:=c5.trans c8;have oQ8:=oQ5.chg c8 (by simp;omega);have oV8:=oV.chg c58 (by simp;omega);have oO8:=oO2.chg c58 (by simp;omega);have hn8:=c58.next;have c08:Chg [P] h h8:=(c02.mono (by simp)).trans c58;simp only [iT]
 cases hb:(qB T [41] (eD T [40] σ)).1 with
 | true=>
  simp only [Bool.not_true,cond_false,if_true];exact ⟨sl0,h8,rfl,x8,c08.mono (by simp),oO8,Sl.nil _ _ _⟩
 | false=>
  simp only [Bool.not_false,cond_true,Bool.false_eq_true,if_false];have r8:h8.cell (h.next,0)=some (.ptr (some (P,0))):=oQ8.cell 0;simp only [r8,fA,wB];have f:CF P X h8 O h.next 4 (off+14) row:=⟨by omega,by omega,hX,rj,rs⟩;obtain ⟨h12,e12,cv⟩:=rAq (N:=N) hT hN (V:=h1.next) (off:=off) f (by omega) ⟨⟨x8,Chg.refl _ _,oQ8,sl0,oO8,Ow.nil _ _ _ _⟩,oV8⟩;rw [e12,aA];obtain ⟨v,oO12,w12⟩:=cv.ci.ex;have r12:h12.cell (h.next,0)=some (.ptr (some (P,0))):=cv.ci.q.cell 0;simp only [r12,fA,wB];obtain ⟨h15,e15,c15,x15⟩:=rF (N:=N) hT cv.ci.pc (w:=[41]) (by decide);rw [e15,aA];have w15:=w12.chg c15 (by intro A hA;rw [List.mem_singleton] at hA;omega);exact ⟨v,h15,rfl,x15,((c08.mono (N:=[P,O]) (by simp)).trans cv.ci.chg).trans (c15.mono (by simp)),oO12.chg c15 (by simp;omega),w15.sl.weak (fun C hC _=>by omega)⟩
end
end Qp
namespace Qp
structure MF (P:Nat) (X:List Nat) (h0:Heap) (O Q V off:Nat) (row:SL→SL→List AV):Prop where
 o:P<O∧O<h0.next
 q:Q≠P∧Q≠O∧Q<h0.next
 v:V≠P∧V≠O∧V<h0.next
 x:O∈X
 rj:∀ v w,(row v w)[off+13]? = some (SL.av v)
 rk:∀ v w,(row v w)[off+14]? = some (SL.av w)
 rs:∀ v w v',(row v w).set (off+13) (SL.av v')=row v' w
 rt:∀ v w w',(row v w).set (off+14) (SL.av w')=row v w'
structure MI (T:List Tok) (P:Nat) (X:List Nat) (st:Int) (h0:Heap) (O Q V off:Nat) (row:SL→SL→List AV) (h:Heap) (zs:List D) (σ:St):Prop where
 pc:PC T P X h σ st
 chg:Chg [P,O] h0 h
 q:h.own Q [.ptr (some (P,0))]
 v:h.own V [.ptr (some (O,off))]
 ex:∃ v w,h.own O (row v w)∧OwV (fun C=>h0.next≤C∧w.blk≠some C) h v 1 (zs.map d1)∧OwV (fun C=>h0.next≤C∧v.blk≠some C) h w 4 (zs.map d2)
section
variable {N:Nat} {T:List Tok} {P:Nat} {X:List Nat} {st:Int} {h0 h h':Heap} {O Q V off:Nat} {row:SL→SL→List AV} {zs:List D} {σ σ':St}
theorem MI.step (f:MF P X h0 O Q V off row) (x:MI T P X st h0 O Q V off row h zs σ) (c:Chg [P] h h') (y:PC T P X h' σ' st):MI T P X st h0 O Q V off row h' zs σ':=by
 obtain ⟨v,w,o1,w1,w2⟩:=x.ex
 have:=f.o;have:=f.q;have:=f.v
 exact ⟨y,x.chg.trans (c.mono (by simp)),x.q.chg c (by simp;omega),x.v.chg c (by simp;omega),v,w,o1.chg c (by simp;omega),w1.chg c (by intro C hC _;simp;omega),w2.chg c (by intro C hC _;simp;omega)⟩
theorem aB2 (hT:Toks T) (hN:100≤N) (f:MF P X h0 O Q V off row) {i:Nat} (x:MI T P X st h0 O Q V off row h zs (i,none)) (hl:zs.length≤64):∃ h',f256 N (some (V,0)) (some (Q,0)) h=some ((),h')∧MI T P X st h0 O Q V off row h' (zs++[(wA0 T (i,none)).1]) (wA0 T (i,none)).2:=by
 unfold f256;have hO:=f.o;have hQ:=f.q;have hV:=f.v;obtain ⟨v,w,o1,w1,w2⟩:=x.ex;have hv:∀ A∈v.blk.toList,h0.next≤A∧A<h.next∧w.blk≠some A:=fun A hA=>by
  have:=w1.ge A (by simpa using hA);exact ⟨this.1.1,this.2,this.1.2⟩
 have hw:∀ A∈w.blk.toList,h0.next≤A∧A<h.next∧v.blk≠some A:=fun A hA=>by
  have:=w2.ge A (by simpa using hA);exact ⟨this.1.1,this.2,this.1.2⟩
 have y:PC T P (v.blk.toList++(w.blk.toList++X)) h (i,none) st:=x.pc.free fun A hA=>by
  rcases List.mem_append.1 hA with hA | hA
  ·have:=hv A hA;omega
  ·rcases List.mem_append.1 hA with hA | hA
   ·have:=hw A hA;omega
   ·exact x.pc.pa.xl A hA
 have hn0:=x.chg.next;have kV:h.cell (V,0)=some (.ptr (some (O,off))):=x.v.cell 0;have kQ:h.cell (Q,0)=some (.ptr (some (P,0))):=x.q.cell 0;have kv:h.cell (O,off+13)=some (.slice v.a v.len v.cap v.sz):=by rw [o1.cell,f.rj];rfl
 simp only [bA,kV,kQ,kv,fA,qA,wB];obtain ⟨h10,e10,c10,x10⟩:=gT (N:=N) hT y (k:=1) (by decide);rw [e10,aA];generalize hnm:(aC T 1 (i,none)).1=nm at *;generalize hτ:(aC T 1 (i,none)).2=τ at *;have o10:=o1.chg c10 (by simp;omega);have w1_10:=w1.chg c10 (by intro C hC _;simp;omega);have w2_10:=w2.chg c10 (by intro C hC _;simp;omega);have q10:=x.q.chg c10 (by simp;omega);have v10:=x.v.chg c10 (by simp;omega);have hn10:=c10.next;have hl1:((zs.map d1).length+1) * 100≤1073741824:=by rw [List.length_map];omega
 obtain ⟨v',h13,eA,w1_13,c13,hb13⟩:=lO (cs:=[AV.str nm]) lAp (by decide) w1_10 (pJ h10 _ nm) rfl (fun A hA=>⟨by omega,fun e=>by have:=hw A (by simpa using e);omega⟩) hl1;have hn13:=c13.next;have c11:=vA h10 (.row [AV.str nm] .own);have o11:=o10.chg c11 (by simp);have v11:=v10.chg c11 (by simp);have o13:=o10.chg c13 (fun hm=>by have:=hv O hm;omega);have q13:=q10.chg c13 (fun hm=>by have:=hv Q hm;omega);have v13:=v10.chg c13 (fun hm=>by have:=hv V hm;omega);have w2_13:OwV (fun C=>h0.next≤C∧v'.blk≠some C) h13 w 4 (zs.map d2):=by
  have a1:OwV (fun C=>(h0.next≤C∧v.blk≠some C)∧C<h10.next) h10 w 4 (zs.map d2):=w2_10.weak fun C hC hl=>⟨hC,hl⟩;have a2:=a1.chg c13 (by intro C hC _ hm;exact hC.1.2 (by simpa using hm));exact a2.weak fun C hC _=>⟨hC.1.1,fun e=>by rcases hb13 C e with e | e;exact hC.1.2 e;omega⟩
 rw [eA,aG,qA];have hjl:off+13<(row v w).length:=(List.getElem?_eq_some_iff.1 (f.rj v w)).1;have hst:h13.store (O,off+13) [.slice v'.a v'.len v'.cap v'.sz]=some (h13.put O (.row (row v' w) .own)):=by
  have:=o13.store1 hjl (SL.av v')
  rw [f.rs] at this;exact this
 simp only [bA,hst];have cp:=o13.put (row v' w);have o15:=iB o13 (row v' w);have x13:=x10.chgM c13 (fun A hA=>List.mem_append_left _ hA);have x15:=x13.chg1 cp (List.mem_append_right _ (List.mem_append_right _ f.x));have q15:=q13.chg cp (by simp;omega);have v15:=v13.chg cp (by simp;omega);have w1_15:=w1_13.chg cp (by intro C hC _;simp;omega);have w2_15:=w2_13.chg cp (by intro C hC _;simp;omega);have n15:(h13.put O (.row (row v' w) .own)).next=h13.next:=rfl;have c015:Chg [P,O] h0 (h13.put O (.row (row v' w) .own)):=((x.chg.trans (c10.mono (by simp))).step c13 (fun A hA hl=>by have:=hv A hA;omega)).trans (cp.mono (by simp));generalize h13.put O (.row (row v' w) .own)=h15 at *;have k10V:h10.cell (V,0)=some (.ptr (some (O,off))):=v10.cell 0;have k11V:(h10.push (.row [AV.str nm] .own)).cell (V,0)=some (.ptr (some (O,off))):=v11.cell 0;have k13V:h13.cell (V,0)=some (.ptr (some (O,off))):=v13.cell 0;have k10v:h10.cell (O,off+13)=some (.slice v.a v.len v.cap v.sz):=by rw [o10.cell,f.rj];rfl
 have k11v:(h10.push (.row [AV.str nm] .own)).cell (O,off+13)=some (.slice v.a v.len v.cap v.sz):=by rw [o11.cell,f.rj];rfl
 have k15Q:h15.cell (Q,0)=some (.ptr (some (P,0))):=q15.cell 0;simp only [pE,kQ,kV,kv,k10V,k11V,k13V,k10v,k11v,rD,cond_true,yC,k15Q,fA,wB];obtain ⟨h19,e19,c19,x19⟩:=rF (N:=N) hT x15 (w:=[58]) (by decide);rw [e19,aA];have o19:=o15.chg c19 (by simp;omega);have q19:=q15.chg c19 (by simp;omega);have v19:=v15.chg c19 (by simp;omega);have w1_19:=w1_15.chg c19 (by intro C hC _;simp;omega);have w2_19:=w2_15.chg c19 (by intro C hC _;simp;omega);have hn19:=c19.next;have k19V:h19.cell (V,0)=some (.ptr (some (O,off))):=v19.cell 0;have k19Q:h19.cell (Q,0)=some (.ptr (some (P,0))):=q19.cell 0;have k19w:h19.cell (O,off+14)=some (.slice w.a w.len w.cap w.sz):=by rw [o19.cell,f.rk];rfl
 simp only [bA,k19V,k19Q,k19w,fA,qA,wB];obtain ⟨r,h29,e29,x29,c29,d29⟩:=dR (N:=N) hT hN x19;rw [e29,aA];have o29:=o19.chg c29 (by simp;omega);have q29:=q19.chg c29 (by simp;omega);have v29:=v19.chg c29 (by simp;omega);have w1_29:=w1_19.chg c29 (by intro C hC _;simp;omega);have w2_29:=w2_19.chg c29 (by intro C hC _;simp;omega);have hn29:=c29.next;have hv':∀ A∈v'.blk.toList,A<h15.next:=fun A hA=>(w1_15.ge A (by simpa using hA)).2;have hl2:((zs.map d2).length+1) * 1000≤1073741824:=by rw [List.length_map];omega
 obtain ⟨w',h32,eB,w2_32,c32,hb32⟩:=lO (cs:=opc r) cAy (by decide) w2_29 (d29.weak fun C hC _=>⟨⟨by omega,fun e=>by have:=hv' C (by simpa using e);omega⟩,fun e=>by have:=hw C (by simpa using e);omega⟩) rfl (fun A hA=>⟨by omega,fun e=>by have:=hv' A (by simpa using e);omega⟩) hl2;have eB':pC E 102 102 (.slice w.a w.len w.cap w.sz) (.slice (some (h29.next,0)) 1 1 4) (h29.push (.row [(.int .i64 r.1),(.int .i64 r.2.1),(.str r.2.2.1),(.slice r.2.2.2.1.a r.2.2.2.1.len r.2.2.2.1.cap r.2.2.2.1.sz)] .own))=some (.slice w'.a w'.len w'.cap w'.sz,h32):=eB;rw [eB',aG,qA];have c30:=vA h29 (.row (opc r) .own);have o30:=o29.chg c30 (by simp);have v30:=v29.chg c30 (by simp);have o32:=o29.chg c32 (fun hm=>by have:=hw O hm;omega);have q32:=q29.chg c32 (fun hm=>by have:=hw Q hm;omega);have v32:=v29.chg c32 (fun hm=>by have:=hw V hm;omega);have w1_32:OwV (fun C=>h0.next≤C∧w'.blk≠some C) h32 v' 1 (zs.map d1++[.s nm]):=by
  have a1:OwV (fun C=>(h0.next≤C∧w.blk≠some C)∧C<h29.next) h29 v' 1 (zs.map d1++[.s nm]):=w1_29.weak fun C hC hl=>⟨hC,hl⟩;have a2:=a1.chg c32 (by intro C hC _ hm;exact hC.1.2 (by simpa using hm));exact a2.weak fun C hC _=>⟨hC.1.1,fun e=>by rcases hb32 C e with e | e;exact hC.1.2 e;omega⟩
 have hkl:off+14<(row v' w).length:=(List.getElem?_eq_some_iff.1 (f.rk v' w)).1;have hst2:h32.store (O,off+14) [.slice w'.a w'.len w'.cap w'.sz]=some (h32.put O (.row (row v' w') .own)):=by
  have:=o32.store1 hkl (SL.av w')
  rw [f.rt] at this;exact this
 simp only [hst2,bA];have k29V:h29.cell (V,0)=some (.ptr (some (O,off))):=v29.cell 0;have k30V:(h29.push (.row [(.int .i64 r.1),(.int .i64 r.2.1),(.str r.2.2.1),(.slice r.2.2.2.1.a r.2.2.2.1.len r.2.2.2.1.cap r.2.2.2.1.sz)] .own)).cell (V,0)=some (.ptr (some (O,off))):=v30.cell 0;have k32V:h32.cell (V,0)=some (.ptr (some (O,off))):=v32.cell 0;have k29w:h29.cell (O,off+14)=some (.slice w.a w.len w.cap w.sz):=by rw [o29.cell,f.rk];rfl
 have k30w:(h29.push (.row [(.int .i64 r.1),(.int .i64 r.2.1),(.str r.2.2.1),(.slice r.2.2.2.1.a r.2.2.2.1.len r.2.2.2.1.cap r.2.2.2.1.sz)] .own)).cell (O,off+14)=some (.slice w.a w.len w.cap w.sz):=by
  have:=o30.cell (off+14)
  rw [f.rk] at this;exact this
 simp only [k19V,k19Q,k19w,k29V,k30V,k32V,k29w,k30w,rD,cond_true,yC];have cp2:=o32.put (row v' w');have x32:=x29.chgM c32 (fun A hA=>List.mem_append_right _ (List.mem_append_left _ hA));have x34:=x32.chg1 cp2 (List.mem_append_right _ (List.mem_append_right _ f.x));have c034:Chg [P,O] h0 (h32.put O (.row (row v' w') .own)):=((c015.trans ((c19.trans c29).mono (by simp))).step c32 (fun A hA hl=>by have:=hw A hA;omega)).trans (cp2.mono (by simp));simp only [wA0,hnm,hτ];refine ⟨_,rfl,x34.sub (fun A hA=>List.mem_append_right _ (List.mem_append_right _ hA)),c034,q32.chg cp2 (by simp;omega),v32.chg cp2 (by simp;omega),v',w',iB o32 _,?_,?_⟩
 ·rw [List.map_append]
  exact w1_32.chg cp2 (by intro C hC _;simp;omega)
 ·rw [List.map_append]
  exact w2_32.chg cp2 (by intro C hC _;simp;omega)
theorem uAq (hT:Toks T) (hN:100≤N) (f:MF P X h0 O Q V off row) (x:MI T P X st h0 O Q V off row h0 [] σ):∃ h',cY N (some (P,0)) [44] ((some (V,0)),(some (Q,0)),()) h0=some ((),h')∧MI T P X st h0 O Q V off row h' (yD T (wA0 T) [44] σ).1 (yD T (wA0 T) [44] σ).2:=by
 unfold cY;obtain ⟨o,h',e,y⟩:=kO (N:=N) hT hN (F:=fun h=>f256 N (some (V,0)) (some (Q,0)) h) (one:=wA0 T) (Inv:=MI T P X st h0 O Q V off row) (fun h xs σ c=>c.pc) (fun h h' xs σ σ' c d z=>c.step f d z) (fun h xs i c hl=>aB2 hT hN f c hl) (sep:=[44]) (by decide) x;simp only [bQ];rw [e];simp only [yB];cases mD o (.exit 0) <;> exact ⟨h',rfl,y⟩
theorem bB2 (hT:Toks T) (hN:100≤N) (x:PC T P X h σ st) (hO:P<O) (hX:O∈X) (rj:∀ v w,(row v w)[off+13]? = some (SL.av v)) (rk:∀ v w,(row v w)[off+14]? = some (SL.av w)) (rs:∀ v w v',(row v w).set (off+13) (SL.av v')=row v' w) (rt:∀ v w w',(row v w).set (off+14) (SL.av w')=row v w') (oO:h.own O (row sl0 sl0)):∃ v w h',f244 N (some (P,0)) (some (O,off)) h=some ((),h')∧PC T P X h' (rU T σ).2 st∧Chg [P,O] h h'∧h'.own O (row v w)∧Sl h' (fun C=>h.next≤C) v ((rU T σ).1.map d1)∧Sl h' (fun C=>h.next≤C) w ((rU T σ).1.map d2):=by
 unfold f244;have hP:=x.P_lt;have hOl:=oO.2;have oQ:=wA h [AV.ptr (some (P,0))];have cQ:=vA h (.row [AV.ptr (some (P,0))] .own);have nQ:(h.push (.row [AV.ptr (some (P,0))] .own)).next=h.next+1:=rfl;dsimp only;generalize h.push (.row [AV.ptr (some (P,0))] .own)=h1 at *;have oV:=wA h1 [AV.ptr (some (O,off))];have cV:=vA h1 (.row [AV.ptr (some (O,off))] .own);have nV:(h1.push (.row [AV.ptr (some (O,off))] .own)).next=h1.next+1:=rfl;have x2:=x.chg (cQ.trans cV);have oQ2:=oQ.chg cV (by simp);have oO2:=oO.chg (cQ.trans cV) (by simp);have c02:=cQ.trans cV;generalize h1.push (.row [AV.ptr (some (O,off))] .own)=h2 at *;have r2:h2.cell (h.next,0)=some (.ptr (some (P,0))):=oQ2.cell 0;simp only [r2,fA,wB];obtain ⟨h5,e5,c5,x5⟩:=rF (N:=N) hT x2 (w:=[123]) (by decide);rw [e5,aA];have oQ5:=oQ2.chg c5 (by simp;omega);have r5:h5.cell (h.next,0)=some (.ptr (some (P,0))):=oQ5.cell 0;simp only [r5,fA,wB];obtain ⟨h8,e8,c8,x8⟩:=gI (N:=N) hT x5 (w:=[125]) (by decide);rw [e8,aA];have c58:=c5.trans c8;have oQ8:=oQ5.chg c8 (by simp;omega);have oV8:=oV.chg c58 (by simp;omega);have oO8:=oO2.chg c58 (by simp;omega);have hn8:=c58.next;have c08:Chg [P] h h8:=(c02.mono (by simp)).trans c58;simp only [rU]
 cases hb:(qB T [125] (eD T [123] σ)).1 with
 | true=>
  simp only [Bool.not_true,cond_false,if_true];exact ⟨sl0,sl0,h8,rfl,x8,c08.mono (by simp),oO8,Sl.nil _ _ _,Sl.nil _ _ _⟩
 | false=>
  simp only [Bool.not_false,cond_true,Bool.false_eq_true,if_false];have r8:h8.cell (h.next,0)=some (.ptr (some (P,0))):=oQ8.cell 0;simp only [r8,fA,wB];have f:MF P X h8 O h.next h1.next off row:=⟨by omega,by omega,by omega,hX,rj,rk,rs,rt⟩;obtain ⟨h12,e12,mi⟩:=uAq (N:=N) hT hN f ⟨x8,Chg.refl _ _,oQ8,oV8,sl0,sl0,oO8,OwV.nil _ _ _ _,OwV.nil _ _ _ _⟩;rw [e12,aA];obtain ⟨v,w,oO12,w1_12,w2_12⟩:=mi.ex;have r12:h12.cell (h.next,0)=some (.ptr (some (P,0))):=mi.q.cell 0;simp only [r12,fA,wB];obtain ⟨h15,e15,c15,x15⟩:=rF (N:=N) hT mi.pc (w:=[125]) (by decide);rw [e15,aA];have w1_15:=w1_12.chg c15 (by intro C hC _;simp;omega);have w2_15:=w2_12.chg c15 (by intro C hC _;simp;omega);exact ⟨v,w,h15,rfl,x15,((c08.mono (N:=[P,O]) (by simp)).trans mi.chg).trans (c15.mono (by simp)),oO12.chg c15 (by simp;omega),w1_15.sl.weak (fun C hC _=>by have:=hC.1;omega),w2_15.sl.weak (fun C hC _=>by have:=hC.1;omega)⟩
end
end Qp
namespace Qp
abbrev VaV:=Int×Int×Int×zA3×SL×Int×Int×zA3×SL×Int×zA3×SL×zA3×SL×SL×Unit
def vac (x:VaV):List AV:=[.int .i64 x.1,.int .i64 x.2.1,.int .i64 x.2.2.1,.str x.2.2.2.1,.slice x.2.2.2.2.1.a x.2.2.2.2.1.len x.2.2.2.2.1.cap x.2.2.2.2.1.sz,.int .i64 x.2.2.2.2.2.1,.int .i64 x.2.2.2.2.2.2.1,.str x.2.2.2.2.2.2.2.1,.slice x.2.2.2.2.2.2.2.2.1.a x.2.2.2.2.2.2.2.2.1.len x.2.2.2.2.2.2.2.2.1.cap x.2.2.2.2.2.2.2.2.1.sz,.int .i64 x.2.2.2.2.2.2.2.2.2.1,.str x.2.2.2.2.2.2.2.2.2.2.1,.slice x.2.2.2.2.2.2.2.2.2.2.2.1.a x.2.2.2.2.2.2.2.2.2.2.2.1.len x.2.2.2.2.2.2.2.2.2.2.2.1.cap x.2.2.2.2.2.2.2.2.2.2.2.1.sz,.str x.2.2.2.2.2.2.2.2.2.2.2.2.1,.slice x.2.2.2.2.2.2.2.2.2.2.2.2.2.1.a x.2.2.2.2.2.2.2.2.2.2.2.2.2.1.len x.2.2.2.2.2.2.2.2.2.2.2.2.2.1.cap x.2.2.2.2.2.2.2.2.2.2.2.2.2.1.sz,.slice x.2.2.2.2.2.2.2.2.2.2.2.2.2.2.1.a x.2.2.2.2.2.2.2.2.2.2.2.2.2.2.1.len x.2.2.2.2.2.2.2.2.2.2.2.2.2.2.1.cap x.2.2.2.2.2.2.2.2.2.2.2.2.2.2.1.sz]
abbrev uD:OpV:=(0,0,[],sl0,())
def gE (k:Int) (a b:OpV) (op:Int) (pl:LfV) (nm:Bs) (ns ag:SL):VaV:=(k,a.1,a.2.1,a.2.2.1,a.2.2.2.1,b.1,b.2.1,b.2.2.1,b.2.2.2.1,op,pl.1,pl.2.1,nm,ns,ag,())
abbrev va0:VaV:=gE 0 uD uD 0 lf0 [] sl0 sl0
def vaD (k:Int) (a b:D) (op:Int) (pl:D) (nm:Bs) (ns ag:List D):D:=.t [.i k,a,b,.i op,pl,.s nm,.l ns,.l ag]
theorem tAm {β:Type} (r:VaV) (K:VaV→Option β):iA (.val zB) (some (.agg (vac r))) K=K r:=by
 obtain ⟨x1,x2,x3,x4,x5,x6,x7,x8,x9,x10,x11,x12,x13,x14,x15,_⟩:=r;simp [vac]
theorem gW {H:Heap} {A:Nat} {r:VaV} (o:H.own A (vac r)) {β:Type} (K:VaV→Option β):iA (.val zB) (H.cells (A,0) 15) K=K r:=by
 have:H.cells (A,0) 15=some (.agg (vac r)):=o.cells (j:=0) (m:=15) (Nat.le_refl _)
 rw [this,tAm]
theorem dAy {H:Heap} {A:Nat} {r0:VaV} (o:H.own A (vac r0)) (r:VaV):H.store (A,0) [.int .i64 r.1,.int .i64 r.2.1,.int .i64 r.2.2.1,.str r.2.2.2.1,.slice r.2.2.2.2.1.a r.2.2.2.2.1.len r.2.2.2.2.1.cap r.2.2.2.2.1.sz,.int .i64 r.2.2.2.2.2.1,.int .i64 r.2.2.2.2.2.2.1,.str r.2.2.2.2.2.2.2.1,.slice r.2.2.2.2.2.2.2.2.1.a r.2.2.2.2.2.2.2.2.1.len r.2.2.2.2.2.2.2.2.1.cap r.2.2.2.2.2.2.2.2.1.sz,.int .i64 r.2.2.2.2.2.2.2.2.2.1,.str r.2.2.2.2.2.2.2.2.2.2.1,.slice r.2.2.2.2.2.2.2.2.2.2.2.1.a r.2.2.2.2.2.2.2.2.2.2.2.1.len r.2.2.2.2.2.2.2.2.2.2.2.1.cap r.2.2.2.2.2.2.2.2.2.2.2.1.sz,.str r.2.2.2.2.2.2.2.2.2.2.2.2.1,.slice r.2.2.2.2.2.2.2.2.2.2.2.2.2.1.a r.2.2.2.2.2.2.2.2.2.2.2.2.2.1.len r.2.2.2.2.2.2.2.2.2.2.2.2.2.1.cap r.2.2.2.2.2.2.2.2.2.2.2.2.2.1.sz,.slice r.2.2.2.2.2.2.2.2.2.2.2.2.2.2.1.a r.2.2.2.2.2.2.2.2.2.2.2.2.2.2.1.len r.2.2.2.2.2.2.2.2.2.2.2.2.2.2.1.cap r.2.2.2.2.2.2.2.2.2.2.2.2.2.2.1.sz]=some (H.put A (.row (vac r) .own)):=o.store rfl
theorem wBc {H:Heap} {A:Nat} {r0:VaV} (o:H.own A (vac r0)) (r:VaV) {β:Type} (K:VaV→Heap→Option β) :
  (uA (H.store (A,0) [.int .i64 r.1,.int .i64 r.2.1,.int .i64 r.2.2.1,.str r.2.2.2.1,.slice r.2.2.2.2.1.a r.2.2.2.2.1.len r.2.2.2.2.1.cap r.2.2.2.2.1.sz,.int .i64 r.2.2.2.2.2.1,.int .i64 r.2.2.2.2.2.2.1,.str r.2.2.2.2.2.2.2.1,.slice r.2.2.2.2.2.2.2.2.1.a r.2.2.2.2.2.2.2.2.1.len r.2.2.2.2.2.2.2.2.1.cap r.2.2.2.2.2.2.2.2.1.sz,.int .i64 r.2.2.2.2.2.2.2.2.2.1,.str r.2.2.2.2.2.2.2.2.2.2.1,.slice r.2.2.2.2.2.2.2.2.2.2.2.1.a r.2.2.2.2.2.2.2.2.2.2.2.1.len r.2.2.2.2.2.2.2.2.2.2.2.1.cap r.2.2.2.2.2.2.2.2.2.2.2.1.sz,.str r.2.2.2.2.2.2.2.2.2.2.2.2.1,.slice r.2.2.2.2.2.2.2.2.2.2.2.2.2.1.a r.2.2.2.2.2.2.2.2.2.2.2.2.2.1.len r.2.2.2.2.2.2.2.2.2.2.2.2.2.1.cap r.2.2.2.2.2.2.2.2.2.2.2.2.2.1.sz,.slice r.2.2.2.2.2.2.2.2.2.2.2.2.2.2.1.a r.2.2.2.2.2.2.2.2.2.2.2.2.2.2.1.len r.2.2.2.2.2.2.2.2.2.2.2.2.2.2.1.cap r.2.2.2.2.2.2.2.2.2.2.2.2.2.2.1.sz]) fun h7=>iA (.val zB) (h7.cells (A,0) 15) fun x8=>K x8 h7)=K r (H.put A (.row (vac r) .own)):=by
 rw [dAy o,bA,gW (iB o _)]
theorem kN {h:Heap} {V:Nat→Prop} {k op:Int} {a b pl:D} {nm:Bs} {ns ag:List D} {ra rb:OpV} {rp:LfV} {s1 s2:SL} (xa:Dt h V a (opc ra)) (xb:Dt h V b (opc rb)) (xp:Dt h V pl (lfc rp)) (x1:Sl h V s1 ns) (x2:Sl h V s2 ag):Dt h V (vaD k a b op pl nm ns ag) (vac (gE k ra rb op rp nm s1 s2)):=
 mAv (kC (a:=[_]) (jAl h V k) (kC (a:=opc ra) xa (kC (a:=opc rb) xb (kC (a:=[_]) (jAl h V op) (kC (a:=lfc rp) xp (kC (a:=[_]) (pJ h V nm) (kC (a:=[_]) (bP.2 x1) (kC (a:=[_]) (b:=[]) (bP.2 x2) (fW h V)))))))))
theorem fF (h:Heap) (V:Nat→Prop):Dt h V op0 (opc uD):=pAq (iH h V)
section
variable {k op:Int} {a b:OpV} {pl:LfV} {nm:Bs}
theorem aBh (v w:SL):(vac (gE k a b op pl nm v w))[0+13]? = some (SL.av v):=by simp [vac,gE,SL.av]
theorem jBg (v w:SL):(vac (gE k a b op pl nm v w))[0+14]? = some (SL.av w):=by simp [vac,gE,SL.av]
theorem bBh (v w v':SL):(vac (gE k a b op pl nm v w)).set (0+13) (SL.av v')=vac (gE k a b op pl nm v' w):=by simp [vac,gE,SL.av]
theorem kBg (v w w':SL):(vac (gE k a b op pl nm v w)).set (0+14) (SL.av w')=vac (gE k a b op pl nm v w'):=by simp [vac,gE,SL.av]
end
def jT (T:List Tok) (σ:St):D×St:=
 let a:=wH T σ
 if (qB T [123] a.2).1=true then
  let l:=rU T a.2
  (vaD 7 op0 op0 0 pl0 a.1 (l.1.map d1) (l.1.map d2),l.2)
 else
  let l:=iT T a.2
  (vaD 6 op0 op0 0 pl0 a.1 [] l.1,l.2)
def opS (T:List Tok):List Bs→Int→St→Option (Int×D)×St
 | [],_,σ=>(none,σ)
 | s::r,k,σ=>let b:=qB T s σ;if b.1=true then (some (k,(eF T b.2).1),(eF T b.2).2) else opS T r (k+1) b.2
def jM:List Bs:=[[43],[45],[60],[61,61]]
def opV (o:D):Option (Int×D)→D
 | none=>vaD 1 o op0 0 pl0 [] [] []
 | some (k,b)=>vaD 5 o b k pl0 [] [] []
def cG (T:List Tok) (σ:St):D×St:=
 let a:=qB T [38] σ
 if a.1=true then
  let m:=qB T [109,117,116] a.2
  let p:=dF T m.2
  (vaD (if m.1=true then 3 else 2) op0 op0 0 p.1 [] [] [],p.2)
 else
  let b:=qB T [33] a.2
  if b.1=true then (vaD 4 (eF T b.2).1 op0 0 pl0 [] [] [],(eF T b.2).2)
  else if (jH T b.2||bH T [123] b.2)=true then jT T b.2
  else
   let o:=eF T b.2
   let s:=opS T jM 1 o.2
   (opV o.1 s.1,s.2)
section
variable {N:Nat} {T:List Tok} {P:Nat} {X:List Nat} {st:Int} {h:Heap} {σ:St}
theorem wAe (hT:Toks T) (x:PC T P X h σ st) {w:Bs} (hw:isWord w=false):∃ h',f146 N (some (P,0)) 5 w h=some ((qB T w σ).1,h')∧Chg [] h h':=by
 obtain ⟨h',e,c⟩:=eAe (N:=N) x.pa 5 w;refine ⟨h',?_,c⟩;rw [e];obtain ⟨i,er⟩:=σ
 cases er with
 | some q=>rfl
 | none=>
  have:=uAh (T:=T) (i:=i) (oB7 hT x.lt) hw
  simp only [qB,Option.isNone_none,Bool.true_and,← this];cases isS T w i <;> rfl
theorem cB2 (hT:Toks T) (hN:100≤N) (x:PC T P X h σ st):∃ r h',f232 N (some (P,0)) h=some (r,h')∧PC T P X h' (jT T σ).2 st∧Chg [P] h h'∧Dt h' (fun C=>h.next≤C) (jT T σ).1 (vac r):=by
 unfold f232;have hP:=x.P_lt;have oR:=wA h (vac va0);have cR:=vA h (.row (vac va0) .own);have eR:h.push (.row [.int .i64 0,.int .i64 0,.int .i64 0,.str [],.slice none 0 0 0,.int .i64 0,.int .i64 0,.str [],.slice none 0 0 0,.int .i64 0,.str [],.slice none 0 0 0,.str [],.slice none 0 0 0,.slice none 0 0 0] .own)=h.push (.row (vac va0) .own):=rfl;have nR:(h.push (.row (vac va0) .own)).next=h.next+1:=rfl;have x1:=x.add cR (A:=h.next) (Nat.le_refl _) (Nat.lt_succ_self _);rw [eR];generalize h.push (.row (vac va0) .own)=h1 at *;dsimp only;obtain ⟨h3,e3,c3,x3⟩:=aAy (N:=N) hT x1;rw [e3,aA];have oR3:=oR.chg c3 (by simp;omega);have hn3:=c3.next;simp only [jT];generalize (wH T σ).1=nm at *;generalize (wH T σ).2=τ at *;have oO0:=wA h3 (vac va0);have cO0:=vA h3 (.row (vac va0) .own);have eO:h3.push (.row [.int .i64 0,.int .i64 0,.int .i64 0,.str [],.slice none 0 0 0,.int .i64 0,.int .i64 0,.str [],.slice none 0 0 0,.int .i64 0,.str [],.slice none 0 0 0,.str [],.slice none 0 0 0,.slice none 0 0 0] .own)=h3.push (.row (vac va0) .own):=rfl;have hstO:(h3.push (.row (vac va0) .own)).store (h3.next,0) [(.int .i64 6),(.int .i64 0),(.int .i64 0),(.str []),(.slice none 0 0 0),(.int .i64 0),(.int .i64 0),(.str []),(.slice none 0 0 0),(.int .i64 0),(.str []),(.slice none 0 0 0),(.str nm),(.slice none 0 0 0),(.slice none 0 0 0)]=some ((h3.push (.row (vac va0) .own)).put h3.next (.row (vac (gE 6 uD uD 0 lf0 nm sl0 sl0)) .own)):=oO0.store rfl;rw [eO,hstO,bA];have oO:=iB oO0 (vac (gE 6 uD uD 0 lf0 nm sl0 sl0));have cO:Chg [] h3 ((h3.push (.row (vac va0) .own)).put h3.next (.row (vac (gE 6 uD uD 0 lf0 nm sl0 sl0)) .own)):=cO0.put (.inr (Nat.le_refl _)) _;have nO:((h3.push (.row (vac va0) .own)).put h3.next (.row (vac (gE 6 uD uD 0 lf0 nm sl0 sl0)) .own)).next=h3.next+1:=rfl;have x5:=x3.add cO (A:=h3.next) (Nat.le_refl _) (Nat.lt_succ_self _);have oR5:=oR3.chg cO (by simp);generalize (h3.push (.row (vac va0) .own)).put h3.next (.row (vac (gE 6 uD uD 0 lf0 nm sl0 sl0)) .own)=h5 at *;obtain ⟨h7,e7,c7⟩:=wAe (N:=N) hT x5 (w:=[123]) (by decide);rw [e7,aA];have x7:=x5.chg c7;have oO7:=oO.chg c7 (by simp);have oR7:=oR5.chg c7 (by simp);have hn7:=c7.next;have c07:Chg [P] h h7:=(((cR.mono (by simp)).trans c3).trans (cO.mono (by simp))).trans (c7.mono (by simp))
 cases hb:(qB T [123] τ).1 with
 | true=>
  simp only [cond_true,if_true,Nat.add_zero];have hst:h7.store (h3.next,0) [.int .i64 7]=some (h7.put h3.next (.row (vac (gE 7 uD uD 0 lf0 nm sl0 sl0)) .own)):=fD oO7 rfl;rw [hst,bA];have cp:=oO7.put (vac (gE 7 uD uD 0 lf0 nm sl0 sl0));have oO8:=iB oO7 (vac (gE 7 uD uD 0 lf0 nm sl0 sl0));have oR8:=oR7.chg cp (by simp;omega);have x8:=x7.chg1 cp (by simp);have n8:(h7.put h3.next (.row (vac (gE 7 uD uD 0 lf0 nm sl0 sl0)) .own)).next=h7.next:=rfl;have c08:Chg [P] h (h7.put h3.next (.row (vac (gE 7 uD uD 0 lf0 nm sl0 sl0)) .own)):=c07.step cp (fun A hA hl=>by rw [List.mem_singleton] at hA;omega);generalize h7.put h3.next (.row (vac (gE 7 uD uD 0 lf0 nm sl0 sl0)) .own)=h8 at *;obtain ⟨v,w,h10,e10,x10,c10,oO10,sv,sw⟩:=bB2 (N:=N) (off:=0) (row:=fun v w=>vac (gE 7 uD uD 0 lf0 nm v w)) hT hN x8 (O:=h3.next) (by omega) (by simp) (fun v w=>aBh v w) (fun v w=>jBg v w) (fun v w v'=>bBh v w v') (fun v w w'=>kBg v w w') oO8;rw [e10,aA];have hn10:=c10.next;have oR10:=oR8.chg c10 (by simp;omega);rw [gW oO10];have cZ:=oR10.put (vac (gE 7 uD uD 0 lf0 nm v w));have c010:Chg [P] h h10:=c08.step c10 (fun A hA hl=>by
   simp only [List.mem_cons,List.not_mem_nil,or_false] at hA ⊢;omega)
  refine ⟨gE 7 uD uD 0 lf0 nm v w,_,wBc oR10 (gE 7 uD uD 0 lf0 nm v w) (fun x h=>some (x,h)),(x10.chg1 cZ (by simp)).sub (by simp +contextual),c010.step cZ (fun A hA hl=>by rw [List.mem_singleton] at hA;omega),kN (fF _ _) (fF _ _) (iH _ _) ?_ ?_⟩
  ·exact (sv.chg cZ (fun C hC=>by simp;omega)).weak (fun C hC _=>by omega)
  ·exact (sw.chg cZ (fun C hC=>by simp;omega)).weak (fun C hC _=>by omega)
 | false=>
  simp only [cond_false,Bool.false_eq_true,if_false];obtain ⟨v,h15,e15,x15,c15,oO15,sv⟩:=tAq (N:=N) (off:=0) (row:=fun v=>vac (gE 6 uD uD 0 lf0 nm sl0 v)) hT hN x7 (O:=h3.next) (by omega) (by simp) (fun v=>jBg sl0 v) (fun v v'=>kBg sl0 v v') oO7;rw [e15,aA];have hn15:=c15.next;have oR15:=oR7.chg c15 (by simp;omega);rw [gW oO15];have cZ:=oR15.put (vac (gE 6 uD uD 0 lf0 nm sl0 v));have c015:Chg [P] h h15:=c07.step c15 (fun A hA hl=>by
   simp only [List.mem_cons,List.not_mem_nil,or_false] at hA ⊢;omega)
  refine ⟨gE 6 uD uD 0 lf0 nm sl0 v,_,wBc oR15 (gE 6 uD uD 0 lf0 nm sl0 v) (fun x h=>some (x,h)),(x15.chg1 cZ (by simp)).sub (by simp +contextual),c015.step cZ (fun A hA hl=>by rw [List.mem_singleton] at hA;omega),kN (fF _ _) (fF _ _) (iH _ _) (Sl.nil _ _ _) ?_⟩;exact (sv.chg cZ (fun C hC=>by simp;omega)).weak (fun C hC _=>by omega)
theorem oAv (hT:Toks T) (hN:100≤N) {h0:Heap} {O S:Nat} {R:zT2} {ra:OpV} (hO:P<O∧O<h0.next) (hX:O∈X) (hS:S≠P∧S≠O∧S<h0.next):∀ (l:List Bs) (p M:Nat) (h:Heap) (σ:St),l.length<M→p+l.length=4→jM.drop p=l→PC T P X h σ st→Chg [P,O] h0 h→h.own O (vac (gE 1 ra uD 0 lf0 [] sl0 sl0))→h.own S [.str [43],.str [45],.str [60],.str [61,61]]→
  ∃ h' k rb op,lA6 N M (some (P,0)) R (some (O,0)) ⟨some (S,0),4,4,1⟩ (Int.ofNat 4) (p:Int) h=some (.exit 1,(R,some (O,0),()),h')∧PC T P X h' (opS T l ((p:Int)+1) σ).2 st∧Chg [P,O] h0 h'∧h'.own O (vac (gE k ra rb op lf0 [] sl0 sl0))∧
   (((opS T l ((p:Int)+1) σ).1=none∧k=1∧rb=uD∧op=0)∨(∃ b,(opS T l ((p:Int)+1) σ).1=some (op,b)∧k=5∧Dt h' (fun C=>h0.next≤C) b (opc rb))):=by
 intro l
 induction l with
 | nil=>
  intro p M h σ hM hp hd x c oO oS;obtain ⟨M,rfl⟩:∃ m,M=m+1:=⟨M-1,by omega⟩;rw [eW];unfold eT;have hp4:p=4:=by simpa using hp
  subst hp4;simp only [show uB ((4:Nat):Int) (Int.ofNat 4)=false from rfl,cond_false,opS];exact ⟨h,1,uD,0,rfl,x,c,oO,.inl (by simp)⟩
 | cons s l ih=>
  intro p M h σ hM hp hd x c oO oS;simp only [List.length_cons] at hM hp;obtain ⟨M,rfl⟩:∃ m,M=m+1:=⟨M-1,by omega⟩;rw [eW];unfold eT;have hn0:=c.next;have hp4:p<4:=by omega
  have hlt:uB (p:Int) (Int.ofNat 4)=true:=by rw [ltI];exact decide_eq_true (by show (p:Int)<((4:Nat):Int);omega)
  have hsp:jM[p]? = some s:=by rw [← List.head?_drop,hd];rfl
  have hd':jM.drop (p+1)=l:=by rw [← List.drop_drop,hd];rfl
  have hcell:h.cell (SL.at ⟨some (S,0),4,4,1⟩ p 1)=some (.str s):=by
   show h.cell (S,0+p * 1)=_;rw [Nat.zero_add,Nat.mul_one,oS.cell p,show ([.str [43],.str [45],.str [60],.str [61,61]]:List AV)=jM.map AV.str from rfl,List.getElem?_map,hsp];rfl
  have hws:isWord s=false:=by
   have:s∈jM:=List.mem_of_getElem? hsp
   simp only [jM,List.mem_cons,List.not_mem_nil,or_false] at this;rcases this with rfl | rfl | rfl | rfl <;> decide
  rw [hlt];simp only [cond_true];rw [oA3 (s:=⟨some (S,0),4,4,1⟩) rfl hp4,hcell];simp only [fA,mB];obtain ⟨h40,e40,c40,x40⟩:=gI (N:=N) hT x (w:=s) hws;rw [e40,aA];have o40:=oO.chg c40 (by simp;omega);have s40:=oS.chg c40 (by simp;omega);have c040:=c.trans (c40.mono (N:=[P,O]) (by simp));simp only [opS]
  cases hb:(qB T s σ).1 with
  | true=>
   simp only [cond_true,if_true];obtain ⟨r,h43,e43,x43,c43,d43⟩:=dR (N:=N) hT hN x40;rw [e43,aA];have o43:=o40.chg c43 (by simp;omega);have hn43:=c040.next;simp only [bA,Nat.zero_add,Nat.add_zero];have hw1:bB .i64 (1+(p:Int))=(p:Int)+1:=by rw [lD (by omega) (by omega)];omega
   rw [hw1];have st1:h43.store (O,0) [.int .i64 5]=some (h43.put O (.row (vac (gE 5 ra uD 0 lf0 [] sl0 sl0)) .own)):=fD o43 rfl;rw [st1,bA];have p1:=iB o43 (vac (gE 5 ra uD 0 lf0 [] sl0 sl0));have st2:(h43.put O (.row (vac (gE 5 ra uD 0 lf0 [] sl0 sl0)) .own)).store (O,9) [.int .i64 ((p:Int)+1)]=some ((h43.put O (.row (vac (gE 5 ra uD 0 lf0 [] sl0 sl0)) .own)).put O (.row (vac (gE 5 ra uD ((p:Int)+1) lf0 [] sl0 sl0)) .own)):=fD p1 rfl;rw [st2,bA];have p2:=iB p1 (vac (gE 5 ra uD ((p:Int)+1) lf0 [] sl0 sl0));have st3:((h43.put O (.row (vac (gE 5 ra uD 0 lf0 [] sl0 sl0)) .own)).put O (.row (vac (gE 5 ra uD ((p:Int)+1) lf0 [] sl0 sl0)) .own)).store (O,5) [.int .i64 r.1,.int .i64 r.2.1,.str r.2.2.1,.slice r.2.2.2.1.a r.2.2.2.1.len r.2.2.2.1.cap r.2.2.2.1.sz]=some (((h43.put O (.row (vac (gE 5 ra uD 0 lf0 [] sl0 sl0)) .own)).put O (.row (vac (gE 5 ra uD ((p:Int)+1) lf0 [] sl0 sl0)) .own)).put O (.row (vac (gE 5 ra r ((p:Int)+1) lf0 [] sl0 sl0)) .own)):=fD p2 rfl;rw [st3,bA];have p3:=iB p2 (vac (gE 5 ra r ((p:Int)+1) lf0 [] sl0 sl0));have cp:Chg [O] h43 (((h43.put O (.row (vac (gE 5 ra uD 0 lf0 [] sl0 sl0)) .own)).put O (.row (vac (gE 5 ra uD ((p:Int)+1) lf0 [] sl0 sl0)) .own)).put O (.row (vac (gE 5 ra r ((p:Int)+1) lf0 [] sl0 sl0)) .own)):=((o43.put _).trans (p1.put _)).trans (p2.put _);refine ⟨_,5,r,(p:Int)+1,rfl,x43.chg1 cp hX,(c040.trans (c43.mono (by simp))).trans (cp.mono (by simp)),p3,.inr ⟨_,rfl,rfl,(d43.chg cp (fun C hC=>by simp;omega)).weak fun C hC _=>by omega⟩⟩
  | false=>
   simp only [cond_false,Bool.false_eq_true,if_false];rw [rB (by omega)]
   have:=ih (p+1) M h40 _ (by omega) (by omega) hd' x40 c040 o40 s40
   rw [show (((p+1:Nat):Int))=(p:Int)+1 from by omega] at this;exact this
theorem yAe (hT:Toks T) (hN:100≤N) (x:PC T P X h σ st):∃ r h',f219 N (some (P,0)) h=some (r,h')∧PC T P X h' (cG T σ).2 st∧Chg [P] h h'∧Dt h' (fun C=>h.next≤C) (cG T σ).1 (vac r):=by
 unfold f219;have hP:=x.P_lt;have oR:=wA h (vac va0);have cR:=vA h (.row (vac va0) .own);have eR:h.push (.row [.int .i64 0,.int .i64 0,.int .i64 0,.str [],.slice none 0 0 0,.int .i64 0,.int .i64 0,.str [],.slice none 0 0 0,.int .i64 0,.str [],.slice none 0 0 0,.str [],.slice none 0 0 0,.slice none 0 0 0] .own)=h.push (.row (vac va0) .own):=rfl;have nR:(h.push (.row (vac va0) .own)).next=h.next+1:=rfl;have x1:=x.add cR (A:=h.next) (Nat.le_refl _) (Nat.lt_succ_self _);rw [eR];generalize h.push (.row (vac va0) .own)=h1 at *;dsimp only;obtain ⟨h3,e3,c3,x3⟩:=gI (N:=N) hT x1 (w:=[38]) (by decide);rw [e3,aA];have oR3:=oR.chg c3 (by simp;omega);have c03:Chg [P] h h3:=(cR.mono (by simp)).trans c3;have hn3:=c3.next;have fin:∀ {h':Heap} {σ':St} (c:Chg [P] h h') (y:PC T P (h.next::X) h' σ' st) (o:h'.own h.next (vac va0)) (hn:h.next+1≤h'.next) (r:VaV) {d:D} (_:Dt h' (fun C=>h.next+1≤C) d (vac r)),PC T P X (h'.put h.next (.row (vac r) .own)) σ' st∧Chg [P] h (h'.put h.next (.row (vac r) .own))∧Dt (h'.put h.next (.row (vac r) .own)) (fun C=>h.next≤C) d (vac r)∧(h'.put h.next (.row (vac r) .own)).own h.next (vac r):=fun c y o hn r d hd=>
  ⟨(y.chg1 (o.put (vac r)) (by simp)).sub (by simp +contextual),c.put (.inr (Nat.le_refl _)) _,(hd.chg (o.put (vac r)) (fun C hC=>by simp;omega)).weak (fun C hC _=>by omega),iB o _⟩
 simp only [cG]
 cases hb:(qB T [38] σ).1 with
 | true=>
  simp only [cond_true,if_true];obtain ⟨h5,e5,c5,x5⟩:=yH (N:=N) hT x3 (w:=[109,117,116]) (by decide);rw [e5,aA];have oR5:=oR3.chg c5 (by simp;omega);have c05:=c03.trans c5;have hn5:=c5.next
  cases hm:(qB T [109,117,116] (qB T [38] σ).2).1 with
  | true=>
   simp only [cond_true,if_true,aA];obtain ⟨rp,h9,e9,x9,c9,d9⟩:=vA0 (N:=N) hT hN x5;rw [e9,aA];have oR9:=oR5.chg c9 (by simp;omega);have hn9:=c9.next;obtain ⟨f1,f2,f3,f4⟩:=fin (c05.trans c9) x9 oR9 (by omega) (gE 3 uD uD 0 rp [] sl0 sl0) (kN (fF _ _) (fF _ _) (d9.weak fun C hC _=>by omega) (Sl.nil _ _ _) (Sl.nil _ _ _));have hst:h9.store (h.next,0) [(.int .i64 3),(.int .i64 0),(.int .i64 0),(.str []),(.slice none 0 0 0),(.int .i64 0),(.int .i64 0),(.str []),(.slice none 0 0 0),(.int .i64 0),(.str rp.1),(.slice rp.2.1.a rp.2.1.len rp.2.1.cap rp.2.1.sz),(.str []),(.slice none 0 0 0),(.slice none 0 0 0)]=some (h9.put h.next (.row (vac (gE 3 uD uD 0 rp [] sl0 sl0)) .own)):=oR9.store rfl;simp only [bA,hst,aB,yA];exact ⟨gE 3 uD uD 0 rp [] sl0 sl0,_,gW f4 (fun x=>some (x,_)),f1,f2,f3⟩
  | false=>
   simp only [cond_false,Bool.false_eq_true,if_false,aA];obtain ⟨rp,h9,e9,x9,c9,d9⟩:=vA0 (N:=N) hT hN x5;rw [e9,aA];have oR9:=oR5.chg c9 (by simp;omega);have hn9:=c9.next;obtain ⟨f1,f2,f3,f4⟩:=fin (c05.trans c9) x9 oR9 (by omega) (gE 2 uD uD 0 rp [] sl0 sl0) (kN (fF _ _) (fF _ _) (d9.weak fun C hC _=>by omega) (Sl.nil _ _ _) (Sl.nil _ _ _));have hst:h9.store (h.next,0) [(.int .i64 2),(.int .i64 0),(.int .i64 0),(.str []),(.slice none 0 0 0),(.int .i64 0),(.int .i64 0),(.str []),(.slice none 0 0 0),(.int .i64 0),(.str rp.1),(.slice rp.2.1.a rp.2.1.len rp.2.1.cap rp.2.1.sz),(.str []),(.slice none 0 0 0),(.slice none 0 0 0)]=some (h9.put h.next (.row (vac (gE 2 uD uD 0 rp [] sl0 sl0)) .own)):=oR9.store rfl;simp only [bA,hst,aB,yA];exact ⟨gE 2 uD uD 0 rp [] sl0 sl0,_,gW f4 (fun x=>some (x,_)),f1,f2,f3⟩
 | false=>
  simp only [cond_false,Bool.false_eq_true,if_false];obtain ⟨h13,e13,c13,x13⟩:=gI (N:=N) hT x3 (w:=[33]) (by decide);rw [e13,aA];have oR13:=oR3.chg c13 (by simp;omega);have c013:=c03.trans c13;have hn13:=c13.next
  cases hb2:(qB T [33] (qB T [38] σ).2).1 with
  | true=>
   simp only [cond_true,if_true];obtain ⟨ra,h15,e15,x15,c15,d15⟩:=dR (N:=N) hT hN x13;rw [e15,aA];have oR15:=oR13.chg c15 (by simp;omega);have hn15:=c15.next;obtain ⟨f1,f2,f3,f4⟩:=fin (c013.trans c15) x15 oR15 (by omega) (gE 4 ra uD 0 lf0 [] sl0 sl0) (kN (d15.weak fun C hC _=>by omega) (fF _ _) (iH _ _) (Sl.nil _ _ _) (Sl.nil _ _ _));have hst:h15.store (h.next,0) [(.int .i64 4),(.int .i64 ra.1),(.int .i64 ra.2.1),(.str ra.2.2.1),(.slice ra.2.2.2.1.a ra.2.2.2.1.len ra.2.2.2.1.cap ra.2.2.2.1.sz),(.int .i64 0),(.int .i64 0),(.str []),(.slice none 0 0 0),(.int .i64 0),(.str []),(.slice none 0 0 0),(.str []),(.slice none 0 0 0),(.slice none 0 0 0)]=some (h15.put h.next (.row (vac (gE 4 ra uD 0 lf0 [] sl0 sl0)) .own)):=oR15.store rfl;simp only [bA,hst,aB,yA];exact ⟨gE 4 ra uD 0 lf0 [] sl0 sl0,_,gW f4 (fun x=>some (x,_)),f1,f2,f3⟩
  | false=>
   simp only [cond_false,Bool.false_eq_true,if_false];generalize (qB T [33] (qB T [38] σ).2).2=τ at *;have hcall:∃ h22,(kA (f222 N (some (P,0)) h13) fun (x17:Bool) h18=>
     (bif x17 then
      some ((some (P,0),(some (h.next,0)),true,()),h18)
     else
      (kA (f231 N (some (P,0)) [123] h18) fun (x19:Bool) h20=>
      some ((some (P,0),(some (h.next,0)),x19,()),h20))))=some ((some (P,0),some (h.next,0),(jH T τ||bH T [123] τ),()),h22)∧Chg [] h13 h22:=by
    obtain ⟨h18,e18,c18⟩:=qAq (N:=N) hT x13;rw [e18,aA]
    cases hc:jH T τ with
    | true=>simp only [cond_true,Bool.true_or];exact ⟨_,rfl,c18⟩
    | false=>
     simp only [cond_false,Bool.false_or];obtain ⟨h20,e20,c20⟩:=vAe (N:=N) hT (x13.chg c18) [123];rw [e20,aA];exact ⟨_,rfl,c18.trans c20⟩
   obtain ⟨h22,e22,c22⟩:=hcall;rw [e22,aA];have x22:=x13.chg c22;have oR22:=oR13.chg c22 (by simp);have c022:=c013.trans (c22.mono (N:=[P]) (by simp));have hn22:=c22.next;dsimp only
   cases hc:(jH T τ||bH T [123] τ) with
   | true=>
    simp only [cond_true,if_true];obtain ⟨rv,h24,e24,x24,c24,d24⟩:=cB2 (N:=N) hT hN x22;rw [e24,aA];have oR24:=oR22.chg c24 (by simp;omega);have hn24:=c24.next;obtain ⟨f1,f2,f3,f4⟩:=fin (c022.trans c24) x24 oR24 (by omega) rv (d24.weak fun C hC _=>by omega);simp only [bA,dAy oR24,aB,yA];exact ⟨rv,_,gW f4 (fun x=>some (x,_)),f1,f2,f3⟩
   | false=>
    simp only [cond_false,Bool.false_eq_true,if_false,bA,yA];obtain ⟨ra,h32,e32,x32,c32,d32⟩:=dR (N:=N) hT hN x22;rw [e32,aA];have oR32:=oR22.chg c32 (by simp;omega);have d32:=d32.weak (W:=fun C=>h22.next≤C∧C<h32.next) (fun C hC hl=>⟨hC,hl⟩);have c032:=c022.trans c32;have hn32:=c32.next;have oO0:=wA h32 (vac va0);have cO0:=vA h32 (.row (vac va0) .own);have eO:h32.push (.row [.int .i64 0,.int .i64 0,.int .i64 0,.str [],.slice none 0 0 0,.int .i64 0,.int .i64 0,.str [],.slice none 0 0 0,.int .i64 0,.str [],.slice none 0 0 0,.str [],.slice none 0 0 0,.slice none 0 0 0] .own)=h32.push (.row (vac va0) .own):=rfl;have hstO:(h32.push (.row (vac va0) .own)).store (h32.next,0) [(.int .i64 1),(.int .i64 ra.1),(.int .i64 ra.2.1),(.str ra.2.2.1),(.slice ra.2.2.2.1.a ra.2.2.2.1.len ra.2.2.2.1.cap ra.2.2.2.1.sz),(.int .i64 0),(.int .i64 0),(.str []),(.slice none 0 0 0),(.int .i64 0),(.str []),(.slice none 0 0 0),(.str []),(.slice none 0 0 0),(.slice none 0 0 0)]=some ((h32.push (.row (vac va0) .own)).put h32.next (.row (vac (gE 1 ra uD 0 lf0 [] sl0 sl0)) .own)):=oO0.store rfl;rw [eO,hstO,bA];have oO:=iB oO0 (vac (gE 1 ra uD 0 lf0 [] sl0 sl0));have cO:Chg [] h32 ((h32.push (.row (vac va0) .own)).put h32.next (.row (vac (gE 1 ra uD 0 lf0 [] sl0 sl0)) .own)):=cO0.put (.inr (Nat.le_refl _)) _;have nO:((h32.push (.row (vac va0) .own)).put h32.next (.row (vac (gE 1 ra uD 0 lf0 [] sl0 sl0)) .own)).next=h32.next+1:=rfl;have x34:=x32.add cO (A:=h32.next) (Nat.le_refl _) (Nat.lt_succ_self _);have oR34:=oR32.chg cO (by simp);have d34:=d32.chg cO (by simp);have c034:=c032.trans (cO.mono (N:=[P]) (by simp));generalize (h32.push (.row (vac va0) .own)).put h32.next (.row (vac (gE 1 ra uD 0 lf0 [] sl0 sl0)) .own)=h34 at *;have oS:=wA h34 [.str [43],.str [45],.str [60],.str [61,61]];have cS:=vA h34 (.row [.str [43],.str [45],.str [60],.str [61,61]] .own);have nS:(h34.push (.row [.str [43],.str [45],.str [60],.str [61,61]] .own)).next=h34.next+1:=rfl;have x35:=x34.chg cS;have oR35:=oR34.chg cS (by simp);have oO35:=oO.chg cS (by simp);have d35:=d34.chg cS (by simp);have c035:=c034.trans (cS.mono (N:=[P]) (by simp));generalize h34.push (.row [.str [43],.str [45],.str [60],.str [61,61]] .own)=h35 at *;obtain ⟨h53,k,rb,op,e53,x53,c53,o53,hres⟩:=oAv (N:=N) hT hN (h0:=h35) (O:=h32.next) (S:=h34.next) (R:=some (h.next,0)) (ra:=ra) (by omega) (by simp) (by omega) jM 0 N h35 _ (by simp [jM];omega) rfl rfl x35 (Chg.refl _ _) oO35 oS;rw [show ((0:Nat):Int)=0 from rfl] at e53 x53 hres;rw [Int.zero_add] at x53 hres;rw [e53];simp only [yB,bA];have hn53:=c53.next;rw [gW o53];have oR53:=oR35.chg c53 (by simp;omega);have c053:Chg [P] h h53:=c035.step c53 (fun A hA hl=>by
     simp only [List.mem_cons,List.not_mem_nil,or_false] at hA ⊢;omega)
    have cZ:=oR53.put (vac (gE k ra rb op lf0 [] sl0 sl0));have x53':=x53.sub (X':=h.next::X) (by simp +contextual);have d53:=(d35.chg c53 (by intro C hC;simp;omega)).weak (W:=fun C=>h.next+1≤C) (fun C hC _=>by omega);rcases hres with ⟨e1,rfl,rfl,rfl⟩ | ⟨b,e1,rfl,db⟩
    ·obtain ⟨f1,f2,f3,f4⟩:=fin c053 x53' oR53 (by omega) (gE 1 ra uD 0 lf0 [] sl0 sl0) (kN d53 (fF _ _) (iH _ _) (Sl.nil _ _ _) (Sl.nil _ _ _))
     rw [e1];exact ⟨gE 1 ra uD 0 lf0 [] sl0 sl0,_,wBc oR53 (gE 1 ra uD 0 lf0 [] sl0 sl0) (fun x h=>some (x,h)),f1,f2,f3⟩
    ·obtain ⟨f1,f2,f3,f4⟩:=fin c053 x53' oR53 (by omega) (gE 5 ra rb op lf0 [] sl0 sl0) (kN d53 (db.weak fun C hC _=>by omega) (iH _ _) (Sl.nil _ _ _) (Sl.nil _ _ _))
     rw [e1];exact ⟨gE 5 ra rb op lf0 [] sl0 sl0,_,wBc oR53 (gE 5 ra rb op lf0 [] sl0 sl0) (fun x h=>some (x,h)),f1,f2,f3⟩
end
end Qp
namespace Qp
structure SmR where
 k:Int
 at_:Int
 m:Bool
 nm:Bs
 ty:TyV
 has:Bool
 pl:LfV
 va:VaV
 co:OpV
 th:SL
 el:SL
structure SmT where
 ty:D
 pl:D
 va:D
 co:D
 th:List D
 el:List D
abbrev SmV:=Int×Int×Bool×zA3×Int×zA3×SL×SL×Bool×zA3×SL×Int×Int×Int×zA3×SL×Int×Int×zA3×SL×Int×zA3×SL×zA3×SL×SL×Int×Int×zA3×SL×SL×SL×Unit
def smx (x:SmV):List AV:=[.int .i64 x.1,.int .i64 x.2.1,.bool x.2.2.1,.str x.2.2.2.1,.int .i64 x.2.2.2.2.1,.str x.2.2.2.2.2.1,.slice x.2.2.2.2.2.2.1.a x.2.2.2.2.2.2.1.len x.2.2.2.2.2.2.1.cap x.2.2.2.2.2.2.1.sz,.slice x.2.2.2.2.2.2.2.1.a x.2.2.2.2.2.2.2.1.len x.2.2.2.2.2.2.2.1.cap x.2.2.2.2.2.2.2.1.sz,.bool x.2.2.2.2.2.2.2.2.1,.str x.2.2.2.2.2.2.2.2.2.1,.slice x.2.2.2.2.2.2.2.2.2.2.1.a x.2.2.2.2.2.2.2.2.2.2.1.len x.2.2.2.2.2.2.2.2.2.2.1.cap x.2.2.2.2.2.2.2.2.2.2.1.sz,.int .i64 x.2.2.2.2.2.2.2.2.2.2.2.1,.int .i64 x.2.2.2.2.2.2.2.2.2.2.2.2.1,.int .i64 x.2.2.2.2.2.2.2.2.2.2.2.2.2.1,.str x.2.2.2.2.2.2.2.2.2.2.2.2.2.2.1,.slice x.2.2.2.2.2.2.2.2.2.2.2.2.2.2.2.1.a x.2.2.2.2.2.2.2.2.2.2.2.2.2.2.2.1.len x.2.2.2.2.2.2.2.2.2.2.2.2.2.2.2.1.cap x.2.2.2.2.2.2.2.2.2.2.2.2.2.2.2.1.sz,.int .i64 x.2.2.2.2.2.2.2.2.2.2.2.2.2.2.2.2.1,.int .i64 x.2.2.2.2.2.2.2.2.2.2.2.2.2.2.2.2.2.1,.str x.2.2.2.2.2.2.2.2.2.2.2.2.2.2.2.2.2.2.1,.slice x.2.2.2.2.2.2.2.2.2.2.2.2.2.2.2.2.2.2.2.1.a x.2.2.2.2.2.2.2.2.2.2.2.2.2.2.2.2.2.2.2.1.len x.2.2.2.2.2.2.2.2.2.2.2.2.2.2.2.2.2.2.2.1.cap x.2.2.2.2.2.2.2.2.2.2.2.2.2.2.2.2.2.2.2.1.sz,.int .i64 x.2.2.2.2.2.2.2.2.2.2.2.2.2.2.2.2.2.2.2.2.1,.str x.2.2.2.2.2.2.2.2.2.2.2.2.2.2.2.2.2.2.2.2.2.1,.slice x.2.2.2.2.2.2.2.2.2.2.2.2.2.2.2.2.2.2.2.2.2.2.1.a x.2.2.2.2.2.2.2.2.2.2.2.2.2.2.2.2.2.2.2.2.2.2.1.len x.2.2.2.2.2.2.2.2.2.2.2.2.2.2.2.2.2.2.2.2.2.2.1.cap x.2.2.2.2.2.2.2.2.2.2.2.2.2.2.2.2.2.2.2.2.2.2.1.sz,.str x.2.2.2.2.2.2.2.2.2.2.2.2.2.2.2.2.2.2.2.2.2.2.2.1,.slice x.2.2.2.2.2.2.2.2.2.2.2.2.2.2.2.2.2.2.2.2.2.2.2.2.1.a x.2.2.2.2.2.2.2.2.2.2.2.2.2.2.2.2.2.2.2.2.2.2.2.2.1.len x.2.2.2.2.2.2.2.2.2.2.2.2.2.2.2.2.2.2.2.2.2.2.2.2.1.cap x.2.2.2.2.2.2.2.2.2.2.2.2.2.2.2.2.2.2.2.2.2.2.2.2.1.sz,.slice x.2.2.2.2.2.2.2.2.2.2.2.2.2.2.2.2.2.2.2.2.2.2.2.2.2.1.a x.2.2.2.2.2.2.2.2.2.2.2.2.2.2.2.2.2.2.2.2.2.2.2.2.2.1.len x.2.2.2.2.2.2.2.2.2.2.2.2.2.2.2.2.2.2.2.2.2.2.2.2.2.1.cap x.2.2.2.2.2.2.2.2.2.2.2.2.2.2.2.2.2.2.2.2.2.2.2.2.2.1.sz,.int .i64 x.2.2.2.2.2.2.2.2.2.2.2.2.2.2.2.2.2.2.2.2.2.2.2.2.2.2.1,.int .i64 x.2.2.2.2.2.2.2.2.2.2.2.2.2.2.2.2.2.2.2.2.2.2.2.2.2.2.2.1,.str x.2.2.2.2.2.2.2.2.2.2.2.2.2.2.2.2.2.2.2.2.2.2.2.2.2.2.2.2.1,.slice x.2.2.2.2.2.2.2.2.2.2.2.2.2.2.2.2.2.2.2.2.2.2.2.2.2.2.2.2.2.1.a x.2.2.2.2.2.2.2.2.2.2.2.2.2.2.2.2.2.2.2.2.2.2.2.2.2.2.2.2.2.1.len x.2.2.2.2.2.2.2.2.2.2.2.2.2.2.2.2.2.2.2.2.2.2.2.2.2.2.2.2.2.1.cap x.2.2.2.2.2.2.2.2.2.2.2.2.2.2.2.2.2.2.2.2.2.2.2.2.2.2.2.2.2.1.sz,.slice x.2.2.2.2.2.2.2.2.2.2.2.2.2.2.2.2.2.2.2.2.2.2.2.2.2.2.2.2.2.2.1.a x.2.2.2.2.2.2.2.2.2.2.2.2.2.2.2.2.2.2.2.2.2.2.2.2.2.2.2.2.2.2.1.len x.2.2.2.2.2.2.2.2.2.2.2.2.2.2.2.2.2.2.2.2.2.2.2.2.2.2.2.2.2.2.1.cap x.2.2.2.2.2.2.2.2.2.2.2.2.2.2.2.2.2.2.2.2.2.2.2.2.2.2.2.2.2.2.1.sz,.slice x.2.2.2.2.2.2.2.2.2.2.2.2.2.2.2.2.2.2.2.2.2.2.2.2.2.2.2.2.2.2.2.1.a x.2.2.2.2.2.2.2.2.2.2.2.2.2.2.2.2.2.2.2.2.2.2.2.2.2.2.2.2.2.2.2.1.len x.2.2.2.2.2.2.2.2.2.2.2.2.2.2.2.2.2.2.2.2.2.2.2.2.2.2.2.2.2.2.2.1.cap x.2.2.2.2.2.2.2.2.2.2.2.2.2.2.2.2.2.2.2.2.2.2.2.2.2.2.2.2.2.2.2.1.sz]
def smv (r:SmR):SmV:=(r.k,r.at_,r.m,r.nm,r.ty.1,r.ty.2.1,r.ty.2.2.1,r.ty.2.2.2.1,r.has,r.pl.1,r.pl.2.1,r.va.1,r.va.2.1,r.va.2.2.1,r.va.2.2.2.1,r.va.2.2.2.2.1,r.va.2.2.2.2.2.1,r.va.2.2.2.2.2.2.1,r.va.2.2.2.2.2.2.2.1,r.va.2.2.2.2.2.2.2.2.1,r.va.2.2.2.2.2.2.2.2.2.1,r.va.2.2.2.2.2.2.2.2.2.2.1,r.va.2.2.2.2.2.2.2.2.2.2.2.1,r.va.2.2.2.2.2.2.2.2.2.2.2.2.1,r.va.2.2.2.2.2.2.2.2.2.2.2.2.2.1,r.va.2.2.2.2.2.2.2.2.2.2.2.2.2.2.1,r.co.1,r.co.2.1,r.co.2.2.1,r.co.2.2.2.1,r.th,r.el,())
def smc (r:SmR):List AV:=smx (smv r)
def smD (r:SmR) (d:SmT):D:=.t [.i r.k,.i r.at_,.b r.m,.s r.nm,d.ty,.b r.has,d.pl,d.va,d.co,.l d.th,.l d.el]
abbrev eAy:TyV:=(0,[],sl0,sl0,())
def bE (at_:Int):SmR:=⟨0,at_,false,[],eAy,false,lf0,va0,uD,sl0,sl0⟩
def va00:D:=vaD 0 op0 op0 0 pl0 [] [] []
def ty0D:D:=tyD 0 [] [] []
def lI:SmT:=⟨ty0D,pl0,va00,op0,[],[]⟩
theorem yA0 (h:Heap) (V:Nat→Prop):Dt h V va00 (vac va0):=kN (fF _ _) (fF _ _) (iH _ _) (Sl.nil _ _ _) (Sl.nil _ _ _)
structure SI (T:List Tok) (P:Nat) (X:List Nat) (hb:Heap) (R O:Nat) (r:SmR) (d:SmT) (h:Heap) (σ:St) (st:Int):Prop where
 pc:PC T P (O::R::X) h σ st
 chg:Chg [P] hb h
 oR:h.own R (smc (bE 0))
 oO:h.own O (smc r)
 le:hb.next≤R∧R<O∧P<hb.next
 dty:Dt h (fun C=>O<C) d.ty (tyc r.ty)
 dpl:Dt h (fun C=>O<C) d.pl (lfc r.pl)
 dva:Dt h (fun C=>O<C) d.va (vac r.va)
 dco:Dt h (fun C=>O<C) d.co (opc r.co)
 dth:Sl h (fun C=>O<C) r.th d.th
 del:Sl h (fun C=>O<C) r.el d.el
section
variable {T:List Tok} {P:Nat} {X:List Nat} {st st':Int} {hb h h':Heap} {R O:Nat} {r r':SmR} {d d':SmT} {σ σ':St}
theorem SI.dt (x:SI T P X hb R O r d h σ st):Dt h (fun C=>O<C) (smD r d) (smc r):=
 mAv (kC (a:=[_]) (jAl h _ r.k) (kC (a:=[_]) (jAl h _ r.at_) (kC (a:=[_]) (pB1 h _ r.m) (kC (a:=[_]) (pJ h _ r.nm) (kC (a:=tyc r.ty) x.dty (kC (a:=[_]) (pB1 h _ r.has) (kC (a:=lfc r.pl) x.dpl (kC (a:=vac r.va) x.dva (kC (a:=opc r.co) x.dco (kC (a:=[_]) (bP.2 x.dth) (kC (a:=[_]) (b:=[]) (bP.2 x.del) (fW h _))))))))))))
theorem SI.step2 (x:SI T P X hb R O r d h σ st) (c:Chg [P,O] h h') (y:PC T P (O::R::X) h' σ' st') (o:h'.own O (smc r')) (e:r'.ty=r.ty∧r'.pl=r.pl∧r'.va=r.va∧r'.co=r.co∧r'.th=r.th∧r'.el=r.el):SI T P X hb R O r' d h' σ' st':=by
 obtain ⟨x1,x2,x3,x4,x5,x6,x7,x8,x9,x10,x11⟩:=x;obtain ⟨e1,e2,e3,e4,e5,e6⟩:=e;have hM:∀ A,O<A→A ∉ [P,O]:=fun C hC=>by simp;omega
 exact ⟨y,x2.step c (fun A hA hl=>by simp only [List.mem_cons,List.not_mem_nil,or_false] at hA ⊢;omega),x3.chg c (by simp;omega),o,x5,by rw [e1];exact x6.chg c hM,by rw [e2];exact x7.chg c hM,by rw [e3];exact x8.chg c hM,by rw [e4];exact x9.chg c hM,by rw [e5];exact x10.chg c hM,by rw [e6];exact x11.chg c hM⟩
theorem SI.step (x:SI T P X hb R O r d h σ st) (c:Chg [P] h h') (y:PC T P (O::R::X) h' σ' st'):SI T P X hb R O r d h' σ' st':=
 x.step2 (c.mono (by simp)) y (x.oO.chg c (by have:=x.le;simp;omega)) ⟨rfl,rfl,rfl,rfl,rfl,rfl⟩
theorem SI.step0 (x:SI T P X hb R O r d h σ st) (c:Chg [] h h'):SI T P X hb R O r d h' σ st:=x.step (c.mono (by simp)) (x.pc.chg c)
theorem SI.lt (x:SI T P X hb R O r d h σ st):O<h.next:=x.oO.2
theorem SI.put' (x:SI T P X hb R O r d h σ st) (r':SmR):Chg [O] h (h.put O (.row (smc r') .own))∧PC T P (O::R::X) (h.put O (.row (smc r') .own)) σ st∧Chg [P] hb (h.put O (.row (smc r') .own))∧(h.put O (.row (smc r') .own)).own R (smc (bE 0))∧(h.put O (.row (smc r') .own)).own O (smc r'):=by
 have c:=x.oO.put (smc r')
 have:=x.le
 exact ⟨c,x.pc.chg1 c (by simp),x.chg.step c (fun A hA hl=>by rw [List.mem_singleton] at hA;omega),x.oR.chg c (by simp;omega),iB x.oO _⟩
theorem SI.setK (x0:SI T P X hb R O r d h σ st) (v:Int):∃ h',h.store (O,0) [.int .i64 v]=some h'∧SI T P X hb R O { r with k:=v } d h' σ st∧Chg [O] h h':=by
 obtain ⟨c,y,cb,oR,oO⟩:=x0.put' { r with k:=v };have hM:∀ A,O<A→A ∉ [O]:=fun C hC=>by simp;omega
 exact ⟨_,fD x0.oO (by simp only [smc,smx,smv,kE,jE,lF,Option.map_some]),⟨y,cb,oR,oO,x0.le,x0.dty.chg c hM,x0.dpl.chg c hM,x0.dva.chg c hM,x0.dco.chg c hM,x0.dth.chg c hM,x0.del.chg c hM⟩,c⟩
theorem SI.setM (x0:SI T P X hb R O r d h σ st) (v:Bool):∃ h',h.store (O,2) [.bool v]=some h'∧SI T P X hb R O { r with m:=v } d h' σ st∧Chg [O] h h':=by
 obtain ⟨c,y,cb,oR,oO⟩:=x0.put' { r with m:=v };have hM:∀ A,O<A→A ∉ [O]:=fun C hC=>by simp;omega
 exact ⟨_,fD x0.oO (by simp only [smc,smx,smv,kE,jE,lF,Option.map_some]),⟨y,cb,oR,oO,x0.le,x0.dty.chg c hM,x0.dpl.chg c hM,x0.dva.chg c hM,x0.dco.chg c hM,x0.dth.chg c hM,x0.del.chg c hM⟩,c⟩
theorem SI.setN (x0:SI T P X hb R O r d h σ st) (v:Bs):∃ h',h.store (O,3) [.str v]=some h'∧SI T P X hb R O { r with nm:=v } d h' σ st∧Chg [O] h h':=by
 obtain ⟨c,y,cb,oR,oO⟩:=x0.put' { r with nm:=v };have hM:∀ A,O<A→A ∉ [O]:=fun C hC=>by simp;omega
 exact ⟨_,fD x0.oO (by simp only [smc,smx,smv,kE,jE,lF,Option.map_some]),⟨y,cb,oR,oO,x0.le,x0.dty.chg c hM,x0.dpl.chg c hM,x0.dva.chg c hM,x0.dco.chg c hM,x0.dth.chg c hM,x0.del.chg c hM⟩,c⟩
theorem SI.setT (x0:SI T P X hb R O r d h σ st) (v:TyV) {x:D} (hd:Dt h (fun C=>O<C) x (tyc v)):∃ h',h.store (O,4) [.int .i64 v.1,.str v.2.1,.slice v.2.2.1.a v.2.2.1.len v.2.2.1.cap v.2.2.1.sz,.slice v.2.2.2.1.a v.2.2.2.1.len v.2.2.2.1.cap v.2.2.2.1.sz]=some h'∧SI T P X hb R O { r with ty:=v } { d with ty:=x } h' σ st∧Chg [O] h h':=by
 obtain ⟨c,y,cb,oR,oO⟩:=x0.put' { r with ty:=v };have hM:∀ A,O<A→A ∉ [O]:=fun C hC=>by simp;omega
 exact ⟨_,fD x0.oO (by simp only [smc,smx,smv,kE,jE,lF,Option.map_some]),⟨y,cb,oR,oO,x0.le,hd.chg c hM,x0.dpl.chg c hM,x0.dva.chg c hM,x0.dco.chg c hM,x0.dth.chg c hM,x0.del.chg c hM⟩,c⟩
theorem SI.setH (x0:SI T P X hb R O r d h σ st) (v:Bool):∃ h',h.store (O,8) [.bool v]=some h'∧SI T P X hb R O { r with has:=v } d h' σ st∧Chg [O] h h':=by
 obtain ⟨c,y,cb,oR,oO⟩:=x0.put' { r with has:=v };have hM:∀ A,O<A→A ∉ [O]:=fun C hC=>by simp;omega
 exact ⟨_,fD x0.oO (by simp only [smc,smx,smv,kE,jE,lF,Option.map_some]),⟨y,cb,oR,oO,x0.le,x0.dty.chg c hM,x0.dpl.chg c hM,x0.dva.chg c hM,x0.dco.chg c hM,x0.dth.chg c hM,x0.del.chg c hM⟩,c⟩
theorem SI.setP (x0:SI T P X hb R O r d h σ st) (v:LfV) {x:D} (hd:Dt h (fun C=>O<C) x (lfc v)):∃ h',h.store (O,9) [.str v.1,.slice v.2.1.a v.2.1.len v.2.1.cap v.2.1.sz]=some h'∧SI T P X hb R O { r with pl:=v } { d with pl:=x } h' σ st∧Chg [O] h h':=by
 obtain ⟨c,y,cb,oR,oO⟩:=x0.put' { r with pl:=v };have hM:∀ A,O<A→A ∉ [O]:=fun C hC=>by simp;omega
 exact ⟨_,fD x0.oO (by simp only [smc,smx,smv,kE,jE,lF,Option.map_some]),⟨y,cb,oR,oO,x0.le,x0.dty.chg c hM,hd.chg c hM,x0.dva.chg c hM,x0.dco.chg c hM,x0.dth.chg c hM,x0.del.chg c hM⟩,c⟩
theorem SI.setV (x0:SI T P X hb R O r d h σ st) (v:VaV) {x:D} (hd:Dt h (fun C=>O<C) x (vac v)):∃ h',h.store (O,11) [.int .i64 v.1,.int .i64 v.2.1,.int .i64 v.2.2.1,.str v.2.2.2.1,.slice v.2.2.2.2.1.a v.2.2.2.2.1.len v.2.2.2.2.1.cap v.2.2.2.2.1.sz,.int .i64 v.2.2.2.2.2.1,.int .i64 v.2.2.2.2.2.2.1,.str v.2.2.2.2.2.2.2.1,.slice v.2.2.2.2.2.2.2.2.1.a v.2.2.2.2.2.2.2.2.1.len v.2.2.2.2.2.2.2.2.1.cap v.2.2.2.2.2.2.2.2.1.sz,.int .i64 v.2.2.2.2.2.2.2.2.2.1,.str v.2.2.2.2.2.2.2.2.2.2.1,.slice v.2.2.2.2.2.2.2.2.2.2.2.1.a v.2.2.2.2.2.2.2.2.2.2.2.1.len v.2.2.2.2.2.2.2.2.2.2.2.1.cap v.2.2.2.2.2.2.2.2.2.2.2.1.sz,.str v.2.2.2.2.2.2.2.2.2.2.2.2.1,.slice v.2.2.2.2.2.2.2.2.2.2.2.2.2.1.a v.2.2.2.2.2.2.2.2.2.2.2.2.2.1.len v.2.2.2.2.2.2.2.2.2.2.2.2.2.1.cap v.2.2.2.2.2.2.2.2.2.2.2.2.2.1.sz,.slice v.2.2.2.2.2.2.2.2.2.2.2.2.2.2.1.a v.2.2.2.2.2.2.2.2.2.2.2.2.2.2.1.len v.2.2.2.2.2.2.2.2.2.2.2.2.2.2.1.cap v.2.2.2.2.2.2.2.2.2.2.2.2.2.2.1.sz]=some h'∧SI T P X hb R O { r with va:=v } { d with va:=x } h' σ st∧Chg [O] h h':=by
 obtain ⟨c,y,cb,oR,oO⟩:=x0.put' { r with va:=v };have hM:∀ A,O<A→A ∉ [O]:=fun C hC=>by simp;omega
 exact ⟨_,fD x0.oO (by simp only [smc,smx,smv,kE,jE,lF,Option.map_some]),⟨y,cb,oR,oO,x0.le,x0.dty.chg c hM,x0.dpl.chg c hM,hd.chg c hM,x0.dco.chg c hM,x0.dth.chg c hM,x0.del.chg c hM⟩,c⟩
theorem SI.setC (x0:SI T P X hb R O r d h σ st) (v:OpV) {x:D} (hd:Dt h (fun C=>O<C) x (opc v)):∃ h',h.store (O,26) [.int .i64 v.1,.int .i64 v.2.1,.str v.2.2.1,.slice v.2.2.2.1.a v.2.2.2.1.len v.2.2.2.1.cap v.2.2.2.1.sz]=some h'∧SI T P X hb R O { r with co:=v } { d with co:=x } h' σ st∧Chg [O] h h':=by
 obtain ⟨c,y,cb,oR,oO⟩:=x0.put' { r with co:=v };have hM:∀ A,O<A→A ∉ [O]:=fun C hC=>by simp;omega
 exact ⟨_,fD x0.oO (by simp only [smc,smx,smv,kE,jE,lF,Option.map_some]),⟨y,cb,oR,oO,x0.le,x0.dty.chg c hM,x0.dpl.chg c hM,x0.dva.chg c hM,hd.chg c hM,x0.dth.chg c hM,x0.del.chg c hM⟩,c⟩
theorem SI.setTh (x0:SI T P X hb R O r d h σ st) (v:SL) {x:List D} (hd:Sl h (fun C=>O<C) v x):∃ h',h.store (O,30) [.slice v.a v.len v.cap v.sz]=some h'∧SI T P X hb R O { r with th:=v } { d with th:=x } h' σ st∧Chg [O] h h':=by
 obtain ⟨c,y,cb,oR,oO⟩:=x0.put' { r with th:=v };have hM:∀ A,O<A→A ∉ [O]:=fun C hC=>by simp;omega
 exact ⟨_,fD x0.oO (by simp only [smc,smx,smv,kE,jE,lF,Option.map_some]),⟨y,cb,oR,oO,x0.le,x0.dty.chg c hM,x0.dpl.chg c hM,x0.dva.chg c hM,x0.dco.chg c hM,hd.chg c hM,x0.del.chg c hM⟩,c⟩
theorem SI.setEl (x0:SI T P X hb R O r d h σ st) (v:SL) {x:List D} (hd:Sl h (fun C=>O<C) v x):∃ h',h.store (O,31) [.slice v.a v.len v.cap v.sz]=some h'∧SI T P X hb R O { r with el:=v } { d with el:=x } h' σ st∧Chg [O] h h':=by
 obtain ⟨c,y,cb,oR,oO⟩:=x0.put' { r with el:=v };have hM:∀ A,O<A→A ∉ [O]:=fun C hC=>by simp;omega
 exact ⟨_,fD x0.oO (by simp only [smc,smx,smv,kE,jE,lF,Option.map_some]),⟨y,cb,oR,oO,x0.le,x0.dty.chg c hM,x0.dpl.chg c hM,x0.dva.chg c hM,x0.dco.chg c hM,x0.dth.chg c hM,hd.chg c hM⟩,c⟩
end
def kAl (T:List Tok) (at_:Int) (σ:St):D×St:=
 let m:=qB T [109,117,116] σ
 let n:=aC T 1 m.2
 let t:=fL T 64 (eD T [58] n.2)
 let b:=qB T [61] t.2
 if b.1=true then
  let v:=cG T b.2
  (smD { bE at_ with k:=1,m:=m.1,nm:=n.1,has:=true } { lI with ty:=t.1,va:=v.1 },eD T [59] v.2)
 else (smD { bE at_ with k:=1,m:=m.1,nm:=n.1 } { lI with ty:=t.1 },eD T [59] b.2)
section
variable {N:Nat} {T:List Tok} {P:Nat} {X:List Nat} {st:Int} {hb h:Heap} {R O:Nat} {σ:St}
def rBe (T:List Tok) (P:Nat) (X:List Nat) (hb:Heap) (R O:Nat) (st:Int) (h:Heap) (x:D×St):Prop:=∃ r d,SI T P X hb R O r d h x.2 st∧x.1=smD r d
theorem qJ {r r':SmR} {d:SmT} (e:r.k=r'.k∧r.at_=r'.at_∧r.m=r'.m∧r.nm=r'.nm∧r.has=r'.has):smD r d=smD r' d:=by
 obtain ⟨e1,e2,e3,e4,e5⟩:=e;simp only [smD,e1,e2,e3,e4,e5]
theorem dB2 (hT:Toks T) (hN:100≤N) {at_:Int} (x:SI T P X hb R O (bE at_) lI h σ st):∃ h',f207 N (some (P,0)) (some (O,0)) h=some ((),h')∧rBe T P X hb R O st h' (kAl T at_ σ):=by
 unfold f207;have hO:=x.le;obtain ⟨h2,e2,c2,y2⟩:=yH (N:=N) hT x.pc (w:=[109,117,116]) (by decide);rw [e2,aA];have x2:=x.step c2 y2;simp only [kAl];generalize (qB T [109,117,116] σ).1=m at *;generalize (qB T [109,117,116] σ).2=τ at *;simp only [bA,Nat.zero_add];obtain ⟨h4,e4,x4,c4⟩:=x2.setK 1;rw [e4,bA];obtain ⟨h6,e6,x6,c6⟩:=x4.setM m;rw [e6,bA];obtain ⟨f,h8,e8,y8,c8,d8,nm,t,hf,hfd,dt⟩:=qAe (N:=N) hT hN x6.pc;have hnm:nm=(aC T 1 τ).1:=by
  simp only [aH,fdD,D.t.injEq,List.cons.injEq,D.s.injEq,true_and,and_true] at hfd;exact hfd.symm
 rw [e8,aA];have x8:=x6.step c8 y8;have hlt6:=x6.lt;have hn8:=c8.next;have oA0:=wA h8 (fdc fd0);have cA0:=vA h8 (.row (fdc fd0) .own);have eA:h8.push (.row [(.bool false),(.str []),(.int .i64 0),(.str []),(.slice none 0 0 0),(.slice none 0 0 0)] .own)=h8.push (.row (fdc fd0) .own):=rfl;rw [eA,jAq oA0 f,bA];have oA1:=iB oA0 (fdc f);have cA1:Chg [] h8 ((h8.push (.row (fdc fd0) .own)).put h8.next (.row (fdc f) .own)):=cA0.put (.inr (Nat.le_refl _)) _;have n1:((h8.push (.row (fdc fd0) .own)).put h8.next (.row (fdc f) .own)).next=h8.next+1:=rfl;generalize (h8.push (.row (fdc fd0) .own)).put h8.next (.row (fdc f) .own)=h10 at *;have x10:=x8.step0 cA1;have dt10:Dt h10 (fun C=>O<C) (fL T 64 (eD T [58] (aC T 1 τ).2)).1 (tyc t):=(dt.chg cA1 (by simp)).weak fun C hC _=>by omega
 subst hf;have k1:∀ {H:Heap},H.own h8.next (fdc (eA2 false nm t))→H.cell (h8.next,0+1)=some (.str nm):=fun o=>o.cell 1;have k2:∀ {H:Heap},H.own h8.next (fdc (eA2 false nm t))→H.cells (h8.next,0+2) 4=some (.agg (tyc t)):=fun o=>o.cells (j:=2) (m:=4) (by show 2+4≤6;omega);rw [k1 oA1,fA,mB,k2 oA1,vAk];have htyc:tyc t=[(.int .i64 t.1),(.str t.2.1),(.slice t.2.2.1.a t.2.2.1.len t.2.2.1.cap t.2.2.1.sz),(.slice t.2.2.2.1.a t.2.2.2.1.len t.2.2.2.1.cap t.2.2.2.1.sz)]:=rfl;obtain ⟨h14,e14,x14,c14⟩:=x10.setN nm
 try simp only [Nat.zero_add]
 rw [e14,bA];have dt14:=dt10.chg c14 (fun C hC=>by simp;omega);obtain ⟨h16,e16,x16,c16⟩:=x14.setT t dt14;rw [e16,bA];have hOA:h8.next ∉ [O]:=by simp;omega
 have oA14:=oA1.chg c14 hOA;have q1:h10.cell (h8.next,1)=some (.str nm):=oA1.cell 1;have q2:h10.cells (h8.next,2) 4=some (.agg [(.int .i64 t.1),(.str t.2.1),(.slice t.2.2.1.a t.2.2.1.len t.2.2.1.cap t.2.2.1.sz),(.slice t.2.2.2.1.a t.2.2.2.1.len t.2.2.2.1.cap t.2.2.2.1.sz)]):=k2 oA1;have q3:h14.cells (h8.next,2) 4=some (.agg [(.int .i64 t.1),(.str t.2.1),(.slice t.2.2.1.a t.2.2.1.len t.2.2.1.cap t.2.2.1.sz),(.slice t.2.2.2.1.a t.2.2.2.1.len t.2.2.2.1.cap t.2.2.2.1.sz)]):=k2 oA14;simp only [q1,q2,q3,htyc,rD,cond_true,yC];have hσ:(aH T τ).2=(fL T 64 (eD T [58] (aC T 1 τ).2)).2:=rfl;rw [hσ] at x16;subst hnm;generalize (fL T 64 (eD T [58] (aC T 1 τ).2))=tt at *;obtain ⟨h18,e18,c18,y18⟩:=gI (N:=N) hT x16.pc (w:=[61]) (by decide);rw [e18,aA];have x18:=x16.step c18 y18;obtain ⟨h20,e20,x20,c20⟩:=x18.setH (qB T [61] tt.2).1;rw [e20,bA];have r20:h20.cell (O,8)=some (.bool (qB T [61] tt.2).1):=x20.oO.cell 8;simp only [r20,fA,jB]
 cases hbb:(qB T [61] tt.2).1 with
 | true=>
  simp only [cond_true,if_true];obtain ⟨v,h24,e24,y24,c24,d24⟩:=yAe (N:=N) hT hN x20.pc;rw [e24,aA];have x24:=x20.step c24 y24;have hlt:=x20.lt;obtain ⟨h26,e26,x26,c26⟩:=x24.setV v (d24.weak fun C hC _=>by omega);rw [e26,bA];obtain ⟨h28,e28,c28,y28⟩:=rF (N:=N) hT x26.pc (w:=[59]) (by decide);rw [e28,aA];exact ⟨_,rfl,_,_,x26.step c28 y28,qJ ⟨rfl,rfl,rfl,rfl,by simp only [hbb]⟩⟩
 | false=>
  simp only [cond_false,Bool.false_eq_true,if_false];obtain ⟨h28,e28,c28,y28⟩:=rF (N:=N) hT x20.pc (w:=[59]) (by decide);rw [e28,aA];exact ⟨_,rfl,_,_,x20.step c28 y28,qJ ⟨rfl,rfl,rfl,rfl,by simp only [hbb];rfl⟩⟩
end
end Qp
namespace Qp
def wE (T:List Tok) (at_:Int) (σ:St):D×St:=
 let a:=qB T [98,114,101,97,107] σ
 if a.1=true then (smD { bE at_ with k:=8 } lI,a.2) else
 let b:=qB T [99,111,110,116,105,110,117,101] a.2
 if b.1=true then (smD { bE at_ with k:=9 } lI,b.2) else
 let c:=qB T [114,101,116,117,114,110] b.2
 if c.1=true then
  if (qB T [59] c.2).1=true then (smD { bE at_ with k:=10 } lI,c.2)
  else (smD { bE at_ with k:=10,has:=true } { lI with va:=(cG T c.2).1 },(cG T c.2).2)
 else
 let d:=qB T [100,114,111,112] c.2
 if d.1=true then (smD { bE at_ with k:=11 } { lI with pl:=(dF T d.2).1 },(dF T d.2).2) else
 if jH T d.2=true then
  let n:=wH T d.2
  let l:=iT T n.2
  (smD { bE at_ with k:=3 } { lI with va:=vaD 6 op0 op0 0 pl0 n.1 [] l.1 },l.2)
 else
  let p:=dF T d.2
  let v:=cG T (eD T [61] p.2)
  (smD { bE at_ with k:=2 } { lI with pl:=p.1,va:=v.1 },v.2)
section
variable {T:List Tok} {P:Nat} {X:List Nat} {st st':Int} {hb h h':Heap} {R O:Nat} {r r':SmR} {d d':SmT} {σ σ':St}
theorem SI.stepV (x:SI T P X hb R O r d h σ st) (c:Chg [P,O] h h') (y:PC T P (O::R::X) h' σ' st') {v:VaV} (o:h'.own O (smc { r with va:=v })) {w:D} (hd:Dt h' (fun C=>O<C) w (vac v)):SI T P X hb R O { r with va:=v } { d with va:=w } h' σ' st':=by
 obtain ⟨x1,x2,x3,x4,x5,x6,x7,x8,x9,x10,x11⟩:=x;have hM:∀ A,O<A→A ∉ [P,O]:=fun C hC=>by simp;omega
 exact ⟨y,x2.step c (fun A hA hl=>by simp only [List.mem_cons,List.not_mem_nil,or_false] at hA ⊢;omega),x3.chg c (by simp;omega),o,x5,x6.chg c hM,x7.chg c hM,hd,x9.chg c hM,x10.chg c hM,x11.chg c hM⟩
end
theorem cBh (r:SmR) (k op:Int) (a b:OpV) (pl:LfV) (nm:Bs) (v w:SL):(smc { r with va:=gE k a b op pl nm v w })[11+14]? = some (SL.av w):=by simp [smc,smx,smv,gE,SL.av]
theorem dBh (r:SmR) (k op:Int) (a b:OpV) (pl:LfV) (nm:Bs) (v w w':SL):(smc { r with va:=gE k a b op pl nm v w }).set (11+14) (SL.av w')=smc { r with va:=gE k a b op pl nm v w' }:=by simp [smc,smx,smv,gE,SL.av]
section
variable {N:Nat} {T:List Tok} {P:Nat} {X:List Nat} {st:Int} {hb h:Heap} {R O:Nat} {σ:St}
theorem eB2 (hT:Toks T) (hN:100≤N) {at_:Int} (x:SI T P X hb R O (bE at_) lI h σ st):∃ h',f209 N (some (P,0)) (some (O,0)) h=some ((),h')∧rBe T P X hb R O st h' (wE T at_ σ):=by
 unfold f209;have hO:=x.le;obtain ⟨h2,e2,c2,y2⟩:=yH (N:=N) hT x.pc (w:=[98,114,101,97,107]) (by decide);rw [e2,aA];have x2:=x.step c2 y2;simp only [wE]
 cases hb1:(qB T [98,114,101,97,107] σ).1 with
 | true=>
  simp only [cond_true,if_true,bA,Nat.zero_add];obtain ⟨h4,e4,x4,c4⟩:=x2.setK 8;rw [e4,bA];exact ⟨_,rfl,_,_,x4,qJ ⟨rfl,rfl,rfl,rfl,rfl⟩⟩
 | false=>
 simp only [cond_false,Bool.false_eq_true,if_false];generalize (qB T [98,114,101,97,107] σ).2=σ2 at *;obtain ⟨h6,e6,c6,y6⟩:=yH (N:=N) hT x2.pc (w:=[99,111,110,116,105,110,117,101]) (by decide);rw [e6,aA];have x6:=x2.step c6 y6
 cases hb2:(qB T [99,111,110,116,105,110,117,101] σ2).1 with
 | true=>
  simp only [cond_true,if_true,bA,Nat.zero_add];obtain ⟨h8,e8,x8,c8⟩:=x6.setK 9;rw [e8,bA];exact ⟨_,rfl,_,_,x8,qJ ⟨rfl,rfl,rfl,rfl,rfl⟩⟩
 | false=>
 simp only [cond_false,Bool.false_eq_true,if_false];generalize (qB T [99,111,110,116,105,110,117,101] σ2).2=σ3 at *;obtain ⟨h10,e10,c10,y10⟩:=yH (N:=N) hT x6.pc (w:=[114,101,116,117,114,110]) (by decide);rw [e10,aA];have x10:=x6.step c10 y10
 cases hb3:(qB T [114,101,116,117,114,110] σ3).1 with
 | true=>
  simp only [cond_true,if_true,bA,Nat.zero_add];obtain ⟨h12,e12,x12,c12⟩:=x10.setK 10;rw [e12,bA];obtain ⟨h14,e14,c14⟩:=wAe (N:=N) hT x12.pc (w:=[59]) (by decide);rw [e14,aA];have x14:=x12.step0 c14;generalize (qB T [114,101,116,117,114,110] σ3).2=σ4 at *;obtain ⟨h17,e17,x17,c17⟩:=x14.setH (!(qB T [59] σ4).1);rw [e17,bA];have r17:h17.cell (O,8)=some (.bool (!(qB T [59] σ4).1)):=x17.oO.cell 8;simp only [r17,fA,jB]
  cases hb4:(qB T [59] σ4).1 with
  | true=>
   rw [hb4] at x17;simp only [Bool.not_true,cond_false,if_true];exact ⟨_,rfl,_,_,x17,qJ ⟨rfl,rfl,rfl,rfl,rfl⟩⟩
  | false=>
   rw [hb4] at x17;simp only [Bool.not_false,cond_true,Bool.false_eq_true,if_false];obtain ⟨v,h24,e24,y24,c24,d24⟩:=yAe (N:=N) hT hN x17.pc;rw [e24,aA];have x24:=x17.step c24 y24;have hlt:=x17.lt;obtain ⟨h26,e26,x26,c26⟩:=x24.setV v (d24.weak fun C hC _=>by omega);rw [e26,bA];exact ⟨_,rfl,_,_,x26,qJ ⟨rfl,rfl,rfl,rfl,rfl⟩⟩
 | false=>
 simp only [cond_false,Bool.false_eq_true,if_false];generalize (qB T [114,101,116,117,114,110] σ3).2=σ4 at *;obtain ⟨h25,e25,c25,y25⟩:=yH (N:=N) hT x10.pc (w:=[100,114,111,112]) (by decide);rw [e25,aA];have x25:=x10.step c25 y25
 cases hb4:(qB T [100,114,111,112] σ4).1 with
 | true=>
  simp only [cond_true,if_true,bA,Nat.zero_add];obtain ⟨p,h27,e27,y27,c27,d27⟩:=vA0 (N:=N) hT hN x25.pc;rw [e27,aA];have x27:=x25.step c27 y27;have hlt:=x25.lt;obtain ⟨h29,e29,x29,c29⟩:=x27.setK 11;rw [e29,bA];obtain ⟨h31,e31,x31,c31⟩:=x29.setP p ((d27.weak (W:=fun C=>O<C) fun C hC _=>by omega).chg c29 (fun C hC=>by simp;omega));rw [e31,bA];exact ⟨_,rfl,_,_,x31,qJ ⟨rfl,rfl,rfl,rfl,rfl⟩⟩
 | false=>
 simp only [cond_false,Bool.false_eq_true,if_false];generalize (qB T [100,114,111,112] σ4).2=σ5 at *;obtain ⟨h33,e33,c33⟩:=qAq (N:=N) hT x25.pc;rw [e33,aA];have x33:=x25.step0 c33
 cases hb5:jH T σ5 with
 | true=>
  simp only [cond_true,if_true,bA,Nat.zero_add];obtain ⟨h35,e35,c35,y35⟩:=aAy (N:=N) hT x33.pc;rw [e35,aA];have x35:=x33.step c35 y35;obtain ⟨h37,e37,x37,c37⟩:=x35.setK 3;rw [e37,bA];generalize (wH T σ5).1=nm at *;generalize (wH T σ5).2=σ6 at *;obtain ⟨h39,e39,x39,c39⟩:=x37.setV (gE 6 uD uD 0 lf0 nm sl0 sl0) (kN (fF _ _) (fF _ _) (iH _ _) (Sl.nil _ _ _) (Sl.nil _ _ _):Dt h37 _ (vaD 6 op0 op0 0 pl0 nm [] []) _);have e39':h37.store (O,11) [(.int .i64 6),(.int .i64 0),(.int .i64 0),(.str []),(.slice none 0 0 0),(.int .i64 0),(.int .i64 0),(.str []),(.slice none 0 0 0),(.int .i64 0),(.str []),(.slice none 0 0 0),(.str nm),(.slice none 0 0 0),(.slice none 0 0 0)]=some h39:=e39;rw [e39',bA];obtain ⟨v,h42,e42,y42,c42,o42,s42⟩:=tAq (N:=N) (off:=11) (row:=fun v=>smc { bE at_ with k:=3,va:=gE 6 uD uD 0 lf0 nm sl0 v }) hT hN x39.pc (O:=O) (by omega) (by simp) (fun v=>cBh { bE at_ with k:=3 } 6 0 uD uD lf0 nm sl0 v) (fun v v'=>dBh { bE at_ with k:=3 } 6 0 uD uD lf0 nm sl0 v v') x39.oO;rw [e42,aA];have hlt:=x39.lt;exact ⟨_,rfl,_,_,x39.stepV c42 y42 (v:=gE 6 uD uD 0 lf0 nm sl0 v) o42 (w:=vaD 6 op0 op0 0 pl0 nm [] (iT T σ6).1) (kN (fF _ _) (fF _ _) (iH _ _) (Sl.nil _ _ _) (s42.weak fun C hC _=>by omega)),qJ ⟨rfl,rfl,rfl,rfl,rfl⟩⟩
 | false=>
  simp only [cond_false,Bool.false_eq_true,if_false,bA,Nat.zero_add];obtain ⟨p,h44,e44,y44,c44,d44⟩:=vA0 (N:=N) hT hN x33.pc;rw [e44,aA];have x44:=x33.step c44 y44;have hlt:=x33.lt;obtain ⟨h46,e46,x46,c46⟩:=x44.setK 2;rw [e46,bA];obtain ⟨h48,e48,x48,c48⟩:=x46.setP p ((d44.weak (W:=fun C=>O<C) fun C hC _=>by omega).chg c46 (fun C hC=>by simp;omega));rw [e48,bA];obtain ⟨h50,e50,c50,y50⟩:=rF (N:=N) hT x48.pc (w:=[61]) (by decide);rw [e50,aA];have x50:=x48.step c50 y50;obtain ⟨v,h52,e52,y52,c52,d52⟩:=yAe (N:=N) hT hN x50.pc;rw [e52,aA];have x52:=x50.step c52 y52;have hlt5:=x50.lt;obtain ⟨h54,e54,x54,c54⟩:=x52.setV v (d52.weak fun C hC _=>by omega);rw [e54,bA];exact ⟨_,rfl,_,_,x54,qJ ⟨rfl,rfl,rfl,rfl,rfl⟩⟩
end
end Qp
namespace Qp
section
variable (T:List Tok) (i:Nat) (e:Int×Int)
theorem rH (w:Bs):qB T w (i,some e)=(false,(i,some e)):=by simp [qB]
theorem kT (k:Int):aC T k (i,some e)=([],(i,some e)):=rfl
theorem iAb (k:Int):cF T k (i,some e)=(i,some e):=rfl
theorem jG (w:Bs):eD T w (i,some e)=(i,some e):=by simp [eD,rH,iAb]
theorem gAi (g:Nat):fL T g (i,some e)=(ty0D,(i,some e)):=by cases g <;> rfl
theorem aA1 (g:Nat):fJ T g (i,some e)=([],(i,some e)):=by cases g <;> simp [fJ,rH]
theorem dA4:dF T (i,some e)=(pl0,(i,some e)):=by simp [dF,kT,aA1,pl0]
theorem vAq:(eF T (i,some e)).2=(i,some e):=by
 simp only [eF,rH,Bool.false_eq_true,if_false]
 by_cases h:(tk T i).1=4
 ·rw [if_pos h];simp [kT]
 ·rw [if_neg h];simp [dA4]
theorem wAq:∀ (l:List Bs) (k:Int),opS T l k (i,some e)=(none,(i,some e))
 | [],_=>rfl
 | s::r,k=>by simp only [opS,rH,Bool.false_eq_true,if_false];exact wAq r _
theorem eA4:jH T (i,some e)=false:=by simp [jH,bH]
theorem aAf (w:Bs):bH T w (i,some e)=false:=by simp [bH]
theorem tU:(cG T (i,some e)).2=(i,some e):=by
 simp only [cG,rH,Bool.false_eq_true,if_false,eA4,aAf,Bool.or_false,vAq,wAq]
theorem fA4 (a:Int):(wE T a (i,some e)).2=(i,some e):=by
 simp only [wE,rH,Bool.false_eq_true,if_false,eA4,dA4,jG,tU]
end
theorem mO {σ:St} (h:σ.2.isSome=true):∃ i e,σ=(i,some e):=by
 obtain ⟨i,e⟩:=σ
 cases e with
 | none=>cases h
 | some q=>exact ⟨i,q,rfl⟩
theorem iAi {T:List Tok} {i:Nat} (h:(tk T i).1=0) (w:Bs):qB T w (i,none)=(false,(i,none)):=by
 have:isS T w i=false:=by simp [isS,h]
 simp [qB,this]
abbrev SC:=St×Nat
def KS (s:SC):Prop:=s.2≤2000∨s.1.2.isSome=true
def KE (T:List Tok) (s:SC):Prop:=KS s∨(s.2≤2001∧(tk T s.1.1).1=0)
theorem KS.err {σ:St} {c:Nat} (h:KS (σ,c)) {τ:St} (hs:∀ i e,σ=(i,some e)→τ=(i,some e)):KS (τ,c):=by
 rcases h with h | h
 ·exact .inl h
 ·obtain ⟨i,e,rfl⟩:=mO h
  rw [hs i e rfl];exact .inr rfl
def mN (T:List Tok) (blk:SC→List D×SC) (s:SC):D×SC:=
 let at_:Int:=((tk T s.1.1).2.2:Int)
 let a:=qB T [108,101,116] s.1
 if a.1=true then ((kAl T at_ a.2).1,((kAl T at_ a.2).2,s.2)) else
 let b:=qB T [105,102] a.2
 if b.1=true then
  let o:=eF T b.2
  let t:=blk (o.2,s.2)
  let e:=qB T [101,108,115,101] t.2.1
  if e.1=true then
   let f:=blk (e.2,t.2.2)
   (smD { bE at_ with k:=4,has:=true } { lI with co:=o.1,th:=t.1,el:=f.1 },f.2)
  else (smD { bE at_ with k:=4 } { lI with co:=o.1,th:=t.1 },(e.2,t.2.2))
 else
 let c:=qB T [119,104,105,108,101] b.2
 if c.1=true then
  let o:=eF T c.2
  let t:=blk (o.2,s.2)
  (smD { bE at_ with k:=5 } { lI with co:=o.1,th:=t.1 },t.2)
 else
 let d:=qB T [108,111,111,112] c.2
 if d.1=true then
  let t:=blk (d.2,s.2)
  (smD { bE at_ with k:=6 } { lI with th:=t.1 },t.2)
 else
 if (qB T [123] d.2).1=true then
  let t:=blk (d.2,s.2)
  (smD { bE at_ with k:=7 } { lI with th:=t.1 },t.2)
 else
  let x:=wE T at_ d.2
  (x.1,(eD T [59] x.2,s.2))
def gB9 (N:Nat) (T:List Tok) (P:Nat) (F:zT2→Int→Heap→Option (SL×Heap)) (blk:SC→List D×SC) (deep:Int):Prop:=∀ (X:List Nat) (h:Heap) (σ:St) (c:Nat),PC T P X h σ (c:Int)→KS (σ,c)→∃ v h',F (some (P,0)) deep h=some (v,h')∧PC T P X h' (blk (σ,c)).2.1 ((blk (σ,c)).2.2:Int)∧Chg [P] h h'∧Sl h' (fun C=>h.next≤C) v (blk (σ,c)).1
theorem yJ {β:Type} (r:SmV) (K:SmV→Option β):iA (.val zA) (some (.agg (smx r))) K=K r:=by
 obtain ⟨x1,x2,x3,x4,x5,x6,x7,x8,x9,x10,x11,x12,x13,x14,x15,x16,x17,x18,x19,x20,x21,x22,x23,x24,x25,x26,x27,x28,x29,x30,x31,x32,_⟩:=r;simp [smx]
theorem fAy {H:Heap} {A:Nat} {r:SmV} (o:H.own A (smx r)) {β:Type} (K:SmV→Option β):iA (.val zA) (H.cells (A,0) 32) K=K r:=by
 have:H.cells (A,0) 32=some (.agg (smx r)):=o.cells (j:=0) (m:=32) (Nat.le_refl _)
 rw [this,yJ]
theorem eBh {H:Heap} {A:Nat} {r0:SmV} (o:H.own A (smx r0)) (r:SmV) {β:Type} (K:SmV→Heap→Option β) :
  (uA (H.store (A,0) [.int .i64 r.1,.int .i64 r.2.1,.bool r.2.2.1,.str r.2.2.2.1,.int .i64 r.2.2.2.2.1,.str r.2.2.2.2.2.1,.slice r.2.2.2.2.2.2.1.a r.2.2.2.2.2.2.1.len r.2.2.2.2.2.2.1.cap r.2.2.2.2.2.2.1.sz,.slice r.2.2.2.2.2.2.2.1.a r.2.2.2.2.2.2.2.1.len r.2.2.2.2.2.2.2.1.cap r.2.2.2.2.2.2.2.1.sz,.bool r.2.2.2.2.2.2.2.2.1,.str r.2.2.2.2.2.2.2.2.2.1,.slice r.2.2.2.2.2.2.2.2.2.2.1.a r.2.2.2.2.2.2.2.2.2.2.1.len r.2.2.2.2.2.2.2.2.2.2.1.cap r.2.2.2.2.2.2.2.2.2.2.1.sz,.int .i64 r.2.2.2.2.2.2.2.2.2.2.2.1,.int .i64 r.2.2.2.2.2.2.2.2.2.2.2.2.1,.int .i64 r.2.2.2.2.2.2.2.2.2.2.2.2.2.1,.str r.2.2.2.2.2.2.2.2.2.2.2.2.2.2.1,.slice r.2.2.2.2.2.2.2.2.2.2.2.2.2.2.2.1.a r.2.2.2.2.2.2.2.2.2.2.2.2.2.2.2.1.len r.2.2.2.2.2.2.2.2.2.2.2.2.2.2.2.1.cap r.2.2.2.2.2.2.2.2.2.2.2.2.2.2.2.1.sz,.int .i64 r.2.2.2.2.2.2.2.2.2.2.2.2.2.2.2.2.1,.int .i64 r.2.2.2.2.2.2.2.2.2.2.2.2.2.2.2.2.2.1,.str r.2.2.2.2.2.2.2.2.2.2.2.2.2.2.2.2.2.2.1,.slice r.2.2.2.2.2.2.2.2.2.2.2.2.2.2.2.2.2.2.2.1.a r.2.2.2.2.2.2.2.2.2.2.2.2.2.2.2.2.2.2.2.1.len r.2.2.2.2.2.2.2.2.2.2.2.2.2.2.2.2.2.2.2.1.cap r.2.2.2.2.2.2.2.2.2.2.2.2.2.2.2.2.2.2.2.1.sz,.int .i64 r.2.2.2.2.2.2.2.2.2.2.2.2.2.2.2.2.2.2.2.2.1,.str r.2.2.2.2.2.2.2.2.2.2.2.2.2.2.2.2.2.2.2.2.2.1,.slice r.2.2.2.2.2.2.2.2.2.2.2.2.2.2.2.2.2.2.2.2.2.2.1.a r.2.2.2.2.2.2.2.2.2.2.2.2.2.2.2.2.2.2.2.2.2.2.1.len r.2.2.2.2.2.2.2.2.2.2.2.2.2.2.2.2.2.2.2.2.2.2.1.cap r.2.2.2.2.2.2.2.2.2.2.2.2.2.2.2.2.2.2.2.2.2.2.1.sz,.str r.2.2.2.2.2.2.2.2.2.2.2.2.2.2.2.2.2.2.2.2.2.2.2.1,.slice r.2.2.2.2.2.2.2.2.2.2.2.2.2.2.2.2.2.2.2.2.2.2.2.2.1.a r.2.2.2.2.2.2.2.2.2.2.2.2.2.2.2.2.2.2.2.2.2.2.2.2.1.len r.2.2.2.2.2.2.2.2.2.2.2.2.2.2.2.2.2.2.2.2.2.2.2.2.1.cap r.2.2.2.2.2.2.2.2.2.2.2.2.2.2.2.2.2.2.2.2.2.2.2.2.1.sz,.slice r.2.2.2.2.2.2.2.2.2.2.2.2.2.2.2.2.2.2.2.2.2.2.2.2.2.1.a r.2.2.2.2.2.2.2.2.2.2.2.2.2.2.2.2.2.2.2.2.2.2.2.2.2.1.len r.2.2.2.2.2.2.2.2.2.2.2.2.2.2.2.2.2.2.2.2.2.2.2.2.2.1.cap r.2.2.2.2.2.2.2.2.2.2.2.2.2.2.2.2.2.2.2.2.2.2.2.2.2.1.sz,.int .i64 r.2.2.2.2.2.2.2.2.2.2.2.2.2.2.2.2.2.2.2.2.2.2.2.2.2.2.1,.int .i64 r.2.2.2.2.2.2.2.2.2.2.2.2.2.2.2.2.2.2.2.2.2.2.2.2.2.2.2.1,.str r.2.2.2.2.2.2.2.2.2.2.2.2.2.2.2.2.2.2.2.2.2.2.2.2.2.2.2.2.1,.slice r.2.2.2.2.2.2.2.2.2.2.2.2.2.2.2.2.2.2.2.2.2.2.2.2.2.2.2.2.2.1.a r.2.2.2.2.2.2.2.2.2.2.2.2.2.2.2.2.2.2.2.2.2.2.2.2.2.2.2.2.2.1.len r.2.2.2.2.2.2.2.2.2.2.2.2.2.2.2.2.2.2.2.2.2.2.2.2.2.2.2.2.2.1.cap r.2.2.2.2.2.2.2.2.2.2.2.2.2.2.2.2.2.2.2.2.2.2.2.2.2.2.2.2.2.1.sz,.slice r.2.2.2.2.2.2.2.2.2.2.2.2.2.2.2.2.2.2.2.2.2.2.2.2.2.2.2.2.2.2.1.a r.2.2.2.2.2.2.2.2.2.2.2.2.2.2.2.2.2.2.2.2.2.2.2.2.2.2.2.2.2.2.1.len r.2.2.2.2.2.2.2.2.2.2.2.2.2.2.2.2.2.2.2.2.2.2.2.2.2.2.2.2.2.2.1.cap r.2.2.2.2.2.2.2.2.2.2.2.2.2.2.2.2.2.2.2.2.2.2.2.2.2.2.2.2.2.2.1.sz,.slice r.2.2.2.2.2.2.2.2.2.2.2.2.2.2.2.2.2.2.2.2.2.2.2.2.2.2.2.2.2.2.2.1.a r.2.2.2.2.2.2.2.2.2.2.2.2.2.2.2.2.2.2.2.2.2.2.2.2.2.2.2.2.2.2.2.1.len r.2.2.2.2.2.2.2.2.2.2.2.2.2.2.2.2.2.2.2.2.2.2.2.2.2.2.2.2.2.2.2.1.cap r.2.2.2.2.2.2.2.2.2.2.2.2.2.2.2.2.2.2.2.2.2.2.2.2.2.2.2.2.2.2.2.1.sz]) fun h7=>iA (.val zA) (h7.cells (A,0) 32) fun x8=>K x8 h7)=K r (H.put A (.row (smx r) .own)):=by
 have:H.store (A,0) [.int .i64 r.1,.int .i64 r.2.1,.bool r.2.2.1,.str r.2.2.2.1,.int .i64 r.2.2.2.2.1,.str r.2.2.2.2.2.1,.slice r.2.2.2.2.2.2.1.a r.2.2.2.2.2.2.1.len r.2.2.2.2.2.2.1.cap r.2.2.2.2.2.2.1.sz,.slice r.2.2.2.2.2.2.2.1.a r.2.2.2.2.2.2.2.1.len r.2.2.2.2.2.2.2.1.cap r.2.2.2.2.2.2.2.1.sz,.bool r.2.2.2.2.2.2.2.2.1,.str r.2.2.2.2.2.2.2.2.2.1,.slice r.2.2.2.2.2.2.2.2.2.2.1.a r.2.2.2.2.2.2.2.2.2.2.1.len r.2.2.2.2.2.2.2.2.2.2.1.cap r.2.2.2.2.2.2.2.2.2.2.1.sz,.int .i64 r.2.2.2.2.2.2.2.2.2.2.2.1,.int .i64 r.2.2.2.2.2.2.2.2.2.2.2.2.1,.int .i64 r.2.2.2.2.2.2.2.2.2.2.2.2.2.1,.str r.2.2.2.2.2.2.2.2.2.2.2.2.2.2.1,.slice r.2.2.2.2.2.2.2.2.2.2.2.2.2.2.2.1.a r.2.2.2.2.2.2.2.2.2.2.2.2.2.2.2.1.len r.2.2.2.2.2.2.2.2.2.2.2.2.2.2.2.1.cap r.2.2.2.2.2.2.2.2.2.2.2.2.2.2.2.1.sz,.int .i64 r.2.2.2.2.2.2.2.2.2.2.2.2.2.2.2.2.1,.int .i64 r.2.2.2.2.2.2.2.2.2.2.2.2.2.2.2.2.2.1,.str r.2.2.2.2.2.2.2.2.2.2.2.2.2.2.2.2.2.2.1,.slice r.2.2.2.2.2.2.2.2.2.2.2.2.2.2.2.2.2.2.2.1.a r.2.2.2.2.2.2.2.2.2.2.2.2.2.2.2.2.2.2.2.1.len r.2.2.2.2.2.2.2.2.2.2.2.2.2.2.2.2.2.2.2.1.cap r.2.2.2.2.2.2.2.2.2.2.2.2.2.2.2.2.2.2.2.1.sz,.int .i64 r.2.2.2.2.2.2.2.2.2.2.2.2.2.2.2.2.2.2.2.2.1,.str r.2.2.2.2.2.2.2.2.2.2.2.2.2.2.2.2.2.2.2.2.2.1,.slice r.2.2.2.2.2.2.2.2.2.2.2.2.2.2.2.2.2.2.2.2.2.2.1.a r.2.2.2.2.2.2.2.2.2.2.2.2.2.2.2.2.2.2.2.2.2.2.1.len r.2.2.2.2.2.2.2.2.2.2.2.2.2.2.2.2.2.2.2.2.2.2.1.cap r.2.2.2.2.2.2.2.2.2.2.2.2.2.2.2.2.2.2.2.2.2.2.1.sz,.str r.2.2.2.2.2.2.2.2.2.2.2.2.2.2.2.2.2.2.2.2.2.2.2.1,.slice r.2.2.2.2.2.2.2.2.2.2.2.2.2.2.2.2.2.2.2.2.2.2.2.2.1.a r.2.2.2.2.2.2.2.2.2.2.2.2.2.2.2.2.2.2.2.2.2.2.2.2.1.len r.2.2.2.2.2.2.2.2.2.2.2.2.2.2.2.2.2.2.2.2.2.2.2.2.1.cap r.2.2.2.2.2.2.2.2.2.2.2.2.2.2.2.2.2.2.2.2.2.2.2.2.1.sz,.slice r.2.2.2.2.2.2.2.2.2.2.2.2.2.2.2.2.2.2.2.2.2.2.2.2.2.1.a r.2.2.2.2.2.2.2.2.2.2.2.2.2.2.2.2.2.2.2.2.2.2.2.2.2.1.len r.2.2.2.2.2.2.2.2.2.2.2.2.2.2.2.2.2.2.2.2.2.2.2.2.2.1.cap r.2.2.2.2.2.2.2.2.2.2.2.2.2.2.2.2.2.2.2.2.2.2.2.2.2.1.sz,.int .i64 r.2.2.2.2.2.2.2.2.2.2.2.2.2.2.2.2.2.2.2.2.2.2.2.2.2.2.1,.int .i64 r.2.2.2.2.2.2.2.2.2.2.2.2.2.2.2.2.2.2.2.2.2.2.2.2.2.2.2.1,.str r.2.2.2.2.2.2.2.2.2.2.2.2.2.2.2.2.2.2.2.2.2.2.2.2.2.2.2.2.1,.slice r.2.2.2.2.2.2.2.2.2.2.2.2.2.2.2.2.2.2.2.2.2.2.2.2.2.2.2.2.2.1.a r.2.2.2.2.2.2.2.2.2.2.2.2.2.2.2.2.2.2.2.2.2.2.2.2.2.2.2.2.2.1.len r.2.2.2.2.2.2.2.2.2.2.2.2.2.2.2.2.2.2.2.2.2.2.2.2.2.2.2.2.2.1.cap r.2.2.2.2.2.2.2.2.2.2.2.2.2.2.2.2.2.2.2.2.2.2.2.2.2.2.2.2.2.1.sz,.slice r.2.2.2.2.2.2.2.2.2.2.2.2.2.2.2.2.2.2.2.2.2.2.2.2.2.2.2.2.2.2.1.a r.2.2.2.2.2.2.2.2.2.2.2.2.2.2.2.2.2.2.2.2.2.2.2.2.2.2.2.2.2.2.1.len r.2.2.2.2.2.2.2.2.2.2.2.2.2.2.2.2.2.2.2.2.2.2.2.2.2.2.2.2.2.2.1.cap r.2.2.2.2.2.2.2.2.2.2.2.2.2.2.2.2.2.2.2.2.2.2.2.2.2.2.2.2.2.2.1.sz,.slice r.2.2.2.2.2.2.2.2.2.2.2.2.2.2.2.2.2.2.2.2.2.2.2.2.2.2.2.2.2.2.2.1.a r.2.2.2.2.2.2.2.2.2.2.2.2.2.2.2.2.2.2.2.2.2.2.2.2.2.2.2.2.2.2.2.1.len r.2.2.2.2.2.2.2.2.2.2.2.2.2.2.2.2.2.2.2.2.2.2.2.2.2.2.2.2.2.2.2.1.cap r.2.2.2.2.2.2.2.2.2.2.2.2.2.2.2.2.2.2.2.2.2.2.2.2.2.2.2.2.2.2.2.1.sz]=some (H.put A (.row (smx r) .own)):=o.store rfl
 rw [this,bA,fAy (iB o _)]
section
variable {N:Nat} {T:List Tok} {P:Nat} {X:List Nat} {h:Heap} {σ:St}
theorem KE.opt {c:Nat} (hk:KE T (σ,c)) {w:Bs} (h:(qB T w σ).1=true):c≤2000:=by
 have hn:=(qF h).2;rcases hk with (hk | hk) | ⟨_,hk⟩
 ·exact hk
 ·rw [hn] at hk;cases hk
 ·obtain ⟨i,e⟩:=σ
  simp only at hn;subst hn;rw [iAi hk] at h;cases h
theorem KS.le {s:SC} (h:s.2≤2000):KS s:=.inl h
theorem fB2 (hT:Toks T) (hN:100≤N) {F:zT2→Int→Heap→Option (SL×Heap)} {G} {blk:SC→List D×SC} {deep:Nat} (hd:deep≤100) (hB:gB9 N T P F blk ((deep+1:Nat):Int)) (hK:∀ s,KS s→KS (blk s).2) {c:Nat} (x:PC T P X h σ (c:Int)) (hk:KE T (σ,c)) :
  ∃ r h',cAi N F G (some (P,0)) (deep:Int) h=some (r,h')∧PC T P X h' (mN T blk (σ,c)).2.1 ((mN T blk (σ,c)).2.2:Int)∧Chg [P] h h'∧Dt h' (fun C=>h.next≤C) (mN T blk (σ,c)).1 (smx r):=by
 unfold cAi;have hP:=x.P_lt;have oR:=wA h (smc (bE 0));have cR:=vA h (.row (smc (bE 0)) .own);have eR:h.push (.row [.int .i64 0,.int .i64 0,.bool false,.str [],.int .i64 0,.str [],.slice none 0 0 0,.slice none 0 0 0,.bool false,.str [],.slice none 0 0 0,.int .i64 0,.int .i64 0,.int .i64 0,.str [],.slice none 0 0 0,.int .i64 0,.int .i64 0,.str [],.slice none 0 0 0,.int .i64 0,.str [],.slice none 0 0 0,.str [],.slice none 0 0 0,.slice none 0 0 0,.int .i64 0,.int .i64 0,.str [],.slice none 0 0 0,.slice none 0 0 0,.slice none 0 0 0] .own)=h.push (.row (smc (bE 0)) .own):=rfl;have nR:(h.push (.row (smc (bE 0)) .own)).next=h.next+1:=rfl;have x1:=x.add cR (A:=h.next) (Nat.le_refl _) (Nat.lt_succ_self _);rw [eR];generalize h.push (.row (smc (bE 0)) .own)=h1 at *;dsimp only;obtain ⟨h3,e3,c3⟩:=iM (N:=N) x1.pa;rw [e3,aA];obtain ⟨h5,e5,c5,o5⟩:=vAh h3 (tk T σ.1);rw [e5,bA];have k5:h5.cell (h3.next,0+2)=some (.int .i64 ((tk T σ.1).2.2:Int)):=o5.cell 2;rw [k5];simp only [fA,kB];have c15:=c3.trans c5;have x5:=x1.chg c15;have oR5:=oR.chg c15 (by simp);have hn5:=c15.next;simp only [mN];generalize ((tk T σ.1).2.2:Int)=at_ at *;have oO0:=wA h5 (smc (bE 0));have cO0:=vA h5 (.row (smc (bE 0)) .own);have eO:h5.push (.row [.int .i64 0,.int .i64 0,.bool false,.str [],.int .i64 0,.str [],.slice none 0 0 0,.slice none 0 0 0,.bool false,.str [],.slice none 0 0 0,.int .i64 0,.int .i64 0,.int .i64 0,.str [],.slice none 0 0 0,.int .i64 0,.int .i64 0,.str [],.slice none 0 0 0,.int .i64 0,.str [],.slice none 0 0 0,.str [],.slice none 0 0 0,.slice none 0 0 0,.int .i64 0,.int .i64 0,.str [],.slice none 0 0 0,.slice none 0 0 0,.slice none 0 0 0] .own)=h5.push (.row (smc (bE 0)) .own):=rfl;have hstO:(h5.push (.row (smc (bE 0)) .own)).store (h5.next,0) (smc (bE at_))=some ((h5.push (.row (smc (bE 0)) .own)).put h5.next (.row (smc (bE at_)) .own)):=oO0.store rfl;have hstO':(h5.push (.row (smc (bE 0)) .own)).store (h5.next,0) (.int .i64 0::.int .i64 at_::([.int .i64 0,.int .i64 0,.bool false,.str [],.int .i64 0,.str [],.slice none 0 0 0,.slice none 0 0 0,.bool false,.str [],.slice none 0 0 0,.int .i64 0,.int .i64 0,.int .i64 0,.str [],.slice none 0 0 0,.int .i64 0,.int .i64 0,.str [],.slice none 0 0 0,.int .i64 0,.str [],.slice none 0 0 0,.str [],.slice none 0 0 0,.slice none 0 0 0,.int .i64 0,.int .i64 0,.str [],.slice none 0 0 0,.slice none 0 0 0,.slice none 0 0 0]).drop 2)=some ((h5.push (.row (smc (bE 0)) .own)).put h5.next (.row (smc (bE at_)) .own)):=hstO;simp only [List.drop_succ_cons,List.drop_zero] at hstO';rw [eO,hstO',bA];have oO:=iB oO0 (smc (bE at_));have cO:Chg [] h5 ((h5.push (.row (smc (bE 0)) .own)).put h5.next (.row (smc (bE at_)) .own)):=cO0.put (.inr (Nat.le_refl _)) _;have nO:((h5.push (.row (smc (bE 0)) .own)).put h5.next (.row (smc (bE at_)) .own)).next=h5.next+1:=rfl;have x8:=x5.add cO (A:=h5.next) (Nat.le_refl _) (Nat.lt_succ_self _);have oR8:=oR5.chg cO (by simp);have c08:Chg [P] h ((h5.push (.row (smc (bE 0)) .own)).put h5.next (.row (smc (bE at_)) .own)):=((cR.mono (by simp)).trans (c15.mono (by simp))).trans (cO.mono (by simp));generalize (h5.push (.row (smc (bE 0)) .own)).put h5.next (.row (smc (bE at_)) .own)=h8 at *;have s8:SI T P X h h.next h5.next (bE at_) lI h8 σ (c:Int):=⟨x8,c08,oR8,oO,⟨Nat.le_refl _,by omega,hP⟩,fN _ _ _ _,iH _ _,yA0 _ _,fF _ _,Sl.nil _ _ _,Sl.nil _ _ _⟩;have hR:h.next<h5.next:=by omega
 generalize h5.next=O at *;generalize h.next=R at *
 -- what stands at the end
 have fin:∀ {h60:Heap} {z:D×SC},rBe T P X h R O ((z.2.2:Int)) h60 (z.1,z.2.1)→∃ r h',
   (iA (.val zA) (h60.cells (O,0) 32) fun x62=>uA (h60.store (R,0) [.int .i64 x62.1,.int .i64 x62.2.1,.bool x62.2.2.1,.str x62.2.2.2.1,.int .i64 x62.2.2.2.2.1,.str x62.2.2.2.2.2.1,.slice x62.2.2.2.2.2.2.1.a x62.2.2.2.2.2.2.1.len x62.2.2.2.2.2.2.1.cap x62.2.2.2.2.2.2.1.sz,.slice x62.2.2.2.2.2.2.2.1.a x62.2.2.2.2.2.2.2.1.len x62.2.2.2.2.2.2.2.1.cap x62.2.2.2.2.2.2.2.1.sz,.bool x62.2.2.2.2.2.2.2.2.1,.str x62.2.2.2.2.2.2.2.2.2.1,.slice x62.2.2.2.2.2.2.2.2.2.2.1.a x62.2.2.2.2.2.2.2.2.2.2.1.len x62.2.2.2.2.2.2.2.2.2.2.1.cap x62.2.2.2.2.2.2.2.2.2.2.1.sz,.int .i64 x62.2.2.2.2.2.2.2.2.2.2.2.1,.int .i64 x62.2.2.2.2.2.2.2.2.2.2.2.2.1,.int .i64 x62.2.2.2.2.2.2.2.2.2.2.2.2.2.1,.str x62.2.2.2.2.2.2.2.2.2.2.2.2.2.2.1,.slice x62.2.2.2.2.2.2.2.2.2.2.2.2.2.2.2.1.a x62.2.2.2.2.2.2.2.2.2.2.2.2.2.2.2.1.len x62.2.2.2.2.2.2.2.2.2.2.2.2.2.2.2.1.cap x62.2.2.2.2.2.2.2.2.2.2.2.2.2.2.2.1.sz,.int .i64 x62.2.2.2.2.2.2.2.2.2.2.2.2.2.2.2.2.1,.int .i64 x62.2.2.2.2.2.2.2.2.2.2.2.2.2.2.2.2.2.1,.str x62.2.2.2.2.2.2.2.2.2.2.2.2.2.2.2.2.2.2.1,.slice x62.2.2.2.2.2.2.2.2.2.2.2.2.2.2.2.2.2.2.2.1.a x62.2.2.2.2.2.2.2.2.2.2.2.2.2.2.2.2.2.2.2.1.len x62.2.2.2.2.2.2.2.2.2.2.2.2.2.2.2.2.2.2.2.1.cap x62.2.2.2.2.2.2.2.2.2.2.2.2.2.2.2.2.2.2.2.1.sz,.int .i64 x62.2.2.2.2.2.2.2.2.2.2.2.2.2.2.2.2.2.2.2.2.1,.str x62.2.2.2.2.2.2.2.2.2.2.2.2.2.2.2.2.2.2.2.2.2.1,.slice x62.2.2.2.2.2.2.2.2.2.2.2.2.2.2.2.2.2.2.2.2.2.2.1.a x62.2.2.2.2.2.2.2.2.2.2.2.2.2.2.2.2.2.2.2.2.2.2.1.len x62.2.2.2.2.2.2.2.2.2.2.2.2.2.2.2.2.2.2.2.2.2.2.1.cap x62.2.2.2.2.2.2.2.2.2.2.2.2.2.2.2.2.2.2.2.2.2.2.1.sz,.str x62.2.2.2.2.2.2.2.2.2.2.2.2.2.2.2.2.2.2.2.2.2.2.2.1,.slice x62.2.2.2.2.2.2.2.2.2.2.2.2.2.2.2.2.2.2.2.2.2.2.2.2.1.a x62.2.2.2.2.2.2.2.2.2.2.2.2.2.2.2.2.2.2.2.2.2.2.2.2.1.len x62.2.2.2.2.2.2.2.2.2.2.2.2.2.2.2.2.2.2.2.2.2.2.2.2.1.cap x62.2.2.2.2.2.2.2.2.2.2.2.2.2.2.2.2.2.2.2.2.2.2.2.2.1.sz,.slice x62.2.2.2.2.2.2.2.2.2.2.2.2.2.2.2.2.2.2.2.2.2.2.2.2.2.1.a x62.2.2.2.2.2.2.2.2.2.2.2.2.2.2.2.2.2.2.2.2.2.2.2.2.2.1.len x62.2.2.2.2.2.2.2.2.2.2.2.2.2.2.2.2.2.2.2.2.2.2.2.2.2.1.cap x62.2.2.2.2.2.2.2.2.2.2.2.2.2.2.2.2.2.2.2.2.2.2.2.2.2.1.sz,.int .i64 x62.2.2.2.2.2.2.2.2.2.2.2.2.2.2.2.2.2.2.2.2.2.2.2.2.2.2.1,.int .i64 x62.2.2.2.2.2.2.2.2.2.2.2.2.2.2.2.2.2.2.2.2.2.2.2.2.2.2.2.1,.str x62.2.2.2.2.2.2.2.2.2.2.2.2.2.2.2.2.2.2.2.2.2.2.2.2.2.2.2.2.1,.slice x62.2.2.2.2.2.2.2.2.2.2.2.2.2.2.2.2.2.2.2.2.2.2.2.2.2.2.2.2.2.1.a x62.2.2.2.2.2.2.2.2.2.2.2.2.2.2.2.2.2.2.2.2.2.2.2.2.2.2.2.2.2.1.len x62.2.2.2.2.2.2.2.2.2.2.2.2.2.2.2.2.2.2.2.2.2.2.2.2.2.2.2.2.2.1.cap x62.2.2.2.2.2.2.2.2.2.2.2.2.2.2.2.2.2.2.2.2.2.2.2.2.2.2.2.2.2.1.sz,.slice x62.2.2.2.2.2.2.2.2.2.2.2.2.2.2.2.2.2.2.2.2.2.2.2.2.2.2.2.2.2.2.1.a x62.2.2.2.2.2.2.2.2.2.2.2.2.2.2.2.2.2.2.2.2.2.2.2.2.2.2.2.2.2.2.1.len x62.2.2.2.2.2.2.2.2.2.2.2.2.2.2.2.2.2.2.2.2.2.2.2.2.2.2.2.2.2.2.1.cap x62.2.2.2.2.2.2.2.2.2.2.2.2.2.2.2.2.2.2.2.2.2.2.2.2.2.2.2.2.2.2.1.sz,.slice x62.2.2.2.2.2.2.2.2.2.2.2.2.2.2.2.2.2.2.2.2.2.2.2.2.2.2.2.2.2.2.2.1.a x62.2.2.2.2.2.2.2.2.2.2.2.2.2.2.2.2.2.2.2.2.2.2.2.2.2.2.2.2.2.2.2.1.len x62.2.2.2.2.2.2.2.2.2.2.2.2.2.2.2.2.2.2.2.2.2.2.2.2.2.2.2.2.2.2.2.1.cap x62.2.2.2.2.2.2.2.2.2.2.2.2.2.2.2.2.2.2.2.2.2.2.2.2.2.2.2.2.2.2.2.1.sz]) fun h63=>iA (.val zA) (h63.cells (R,0) 32) fun x66=>some (x66,h63))=some (r,h')∧PC T P X h' z.2.1 (z.2.2:Int)∧Chg [P] h h'∧Dt h' (fun C=>R≤C) z.1 (smx r):=by
  rintro h60 z ⟨r,d,s,e⟩;have hle:=s.le;refine ⟨smv r,h60.put R (.row (smx (smv r)) .own),?_,?_,?_,?_⟩
  ·rw [fAy (r:=smv r) s.oO]
   exact eBh s.oR (smv r) (fun x h=>some (x,h))
  ·exact (s.pc.chg1 (s.oR.put _) (by simp)).sub (by simp +contextual)
  ·exact s.chg.step (s.oR.put _) (fun A hA hl=>by rw [List.mem_singleton] at hA;omega)
  ·show Dt _ _ z.1 _
   rw [show z.1=smD r d from e];exact (s.dt.chg (s.oR.put _) (fun C hC=>by simp;omega)).weak fun C hC _=>by omega
 obtain ⟨h10,e10,c10,y10⟩:=yH (N:=N) hT s8.pc (w:=[108,101,116]) (by decide);rw [e10,aA];have s10:=s8.step c10 y10
 cases hb1:(qB T [108,101,116] σ).1 with
 | true=>
  simp only [cond_true,if_true];obtain ⟨h12,e12,sm⟩:=dB2 (N:=N) hT hN s10;rw [e12,aA];simp only [aA,bA];exact fin (z:=((kAl T at_ (qB T [108,101,116] σ).2).1,((kAl T at_ (qB T [108,101,116] σ).2).2,c))) sm
 | false=>
 rw [tD hb1] at s10 ⊢;simp only [cond_false,Bool.false_eq_true,if_false];obtain ⟨h14,e14,c14,y14⟩:=yH (N:=N) hT s10.pc (w:=[105,102]) (by decide);rw [e14,aA];have s14:=s10.step c14 y14
 cases hb2:(qB T [105,102] σ).1 with
 | true=>
  have hc:=hk.opt hb2;simp only [cond_true,if_true];obtain ⟨co,h16,e16,y16,c16,d16⟩:=dR (N:=N) hT hN s14.pc;rw [e16,aA];have s16:=s14.step c16 y16;have hlt:=s14.lt;generalize (eF T (qB T [105,102] σ).2)=o at *;simp only [Nat.zero_add];obtain ⟨h17,e17,s17,c17⟩:=s16.setK 4;rw [e17,bA];obtain ⟨h18,e18,s18,c18⟩:=s17.setC co ((d16.weak (W:=fun C=>O<C) fun C hC _=>by omega).chg c17 (fun C hC=>by simp;omega));rw [e18,bA,rB (by omega)];obtain ⟨v,h21,e21,y21,c21,d21⟩:=hB _ h18 _ c s18.pc (KS.le hc);rw [e21,aA];have s21:=s18.step c21 y21;have hlt2:=s18.lt;have hk2:=hK (o.2,c) (KS.le hc);generalize blk (o.2,c)=t at *;obtain ⟨h22,e22,s22,c22⟩:=s21.setTh v (d21.weak fun C hC _=>by omega);rw [e22,bA];obtain ⟨h24,e24,c24,y24⟩:=yH (N:=N) hT s22.pc (w:=[101,108,115,101]) (by decide);rw [e24,aA];have s24:=s22.step c24 y24;obtain ⟨h25,e25,s25,c25⟩:=s24.setH (qB T [101,108,115,101] t.2.1).1;rw [e25,bA];have r25:h25.cell (O,8)=some (.bool (qB T [101,108,115,101] t.2.1).1):=s25.oO.cell 8;simp only [r25,fA,jB]
  cases hb3:(qB T [101,108,115,101] t.2.1).1 with
  | true=>
   rw [hb3] at s25;simp only [cond_true,if_true];have hk3:KS ((qB T [101,108,115,101] t.2.1).2,t.2.2):=KS.err (σ:=t.2.1) hk2 (fun i e h=>by rw [h];rfl);obtain ⟨v2,h29,e29,y29,c29,d29⟩:=hB _ h25 _ t.2.2 s25.pc hk3;rw [e29,aA];have s29:=s25.step c29 y29;have hlt3:=s25.lt;obtain ⟨h30,e30,s30,c30⟩:=s29.setEl v2 (d29.weak fun C hC _=>by omega);rw [e30,bA];simp only [aA,bA];exact fin (z:=(smD { bE at_ with k:=4,has:=true } { lI with co:=o.1,th:=t.1,el:=(blk ((qB T [101,108,115,101] t.2.1).2,t.2.2)).1 },(blk ((qB T [101,108,115,101] t.2.1).2,t.2.2)).2)) ⟨_,_,s30,qJ ⟨rfl,rfl,rfl,rfl,rfl⟩⟩
  | false=>
   rw [hb3] at s25;simp only [cond_false,Bool.false_eq_true,if_false];simp only [aA,bA];exact fin (z:=(smD { bE at_ with k:=4 } { lI with co:=o.1,th:=t.1 },((qB T [101,108,115,101] t.2.1).2,t.2.2))) ⟨_,_,s25,qJ ⟨rfl,rfl,rfl,rfl,rfl⟩⟩
 | false=>
 rw [tD hb2] at s14 ⊢;simp only [cond_false,Bool.false_eq_true,if_false];obtain ⟨h32,e32,c32,y32⟩:=yH (N:=N) hT s14.pc (w:=[119,104,105,108,101]) (by decide);rw [e32,aA];have s32:=s14.step c32 y32
 cases hb3:(qB T [119,104,105,108,101] σ).1 with
 | true=>
  have hc:=hk.opt hb3;simp only [cond_true,if_true];obtain ⟨co,h34,e34,y34,c34,d34⟩:=dR (N:=N) hT hN s32.pc;rw [e34,aA];have s34:=s32.step c34 y34;have hlt:=s32.lt;generalize (eF T (qB T [119,104,105,108,101] σ).2)=o at *;simp only [Nat.zero_add];obtain ⟨h35,e35,s35,c35⟩:=s34.setK 5;rw [e35,bA];obtain ⟨h36,e36,s36,c36⟩:=s35.setC co ((d34.weak (W:=fun C=>O<C) fun C hC _=>by omega).chg c35 (fun C hC=>by simp;omega));rw [e36,bA,rB (by omega)];obtain ⟨v,h39,e39,y39,c39,d39⟩:=hB _ h36 _ c s36.pc (KS.le hc);rw [e39,aA];have s39:=s36.step c39 y39;have hlt2:=s36.lt;obtain ⟨h40,e40,s40,c40⟩:=s39.setTh v (d39.weak fun C hC _=>by omega);rw [e40,bA];simp only [aA,bA];exact fin (z:=(smD { bE at_ with k:=5 } { lI with co:=o.1,th:=(blk (o.2,c)).1 },(blk (o.2,c)).2)) ⟨_,_,s40,qJ ⟨rfl,rfl,rfl,rfl,rfl⟩⟩
 | false=>
 rw [tD hb3] at s32 ⊢;simp only [cond_false,Bool.false_eq_true,if_false];obtain ⟨h42,e42,c42,y42⟩:=yH (N:=N) hT s32.pc (w:=[108,111,111,112]) (by decide);rw [e42,aA];have s42:=s32.step c42 y42
 cases hb4:(qB T [108,111,111,112] σ).1 with
 | true=>
  have hc:=hk.opt hb4;simp only [cond_true,if_true,Nat.zero_add];rw [rB (by omega)];obtain ⟨v,h45,e45,y45,c45,d45⟩:=hB _ h42 _ c s42.pc (KS.le hc);rw [e45,aA];have s45:=s42.step c45 y45;have hlt2:=s42.lt;obtain ⟨h46,e46,s46,c46⟩:=s45.setK 6;rw [e46,bA];obtain ⟨h47,e47,s47,c47⟩:=s46.setTh v ((d45.weak (W:=fun C=>O<C) fun C hC _=>by omega).chg c46 (fun C hC=>by simp;omega));rw [e47,bA];simp only [aA,bA];exact fin (z:=(smD { bE at_ with k:=6 } { lI with th:=(blk ((qB T [108,111,111,112] σ).2,c)).1 },(blk ((qB T [108,111,111,112] σ).2,c)).2)) ⟨_,_,s47,qJ ⟨rfl,rfl,rfl,rfl,rfl⟩⟩
 | false=>
 rw [tD hb4] at s42 ⊢;simp only [cond_false,Bool.false_eq_true,if_false];obtain ⟨h49,e49,c49⟩:=wAe (N:=N) hT s42.pc (w:=[123]) (by decide);rw [e49,aA];have s49:=s42.step0 c49
 cases hb5:(qB T [123] σ).1 with
 | true=>
  have hc:=hk.opt hb5;simp only [cond_true,if_true,Nat.zero_add];rw [rB (by omega)];obtain ⟨v,h45,e45,y45,c45,d45⟩:=hB _ h49 _ c s49.pc (KS.le hc);rw [e45,aA];have s45:=s49.step c45 y45;have hlt2:=s49.lt;obtain ⟨h46,e46,s46,c46⟩:=s45.setK 7;rw [e46,bA];obtain ⟨h47,e47,s47,c47⟩:=s46.setTh v ((d45.weak (W:=fun C=>O<C) fun C hC _=>by omega).chg c46 (fun C hC=>by simp;omega));rw [e47,bA];simp only [aA,bA];exact fin (z:=(smD { bE at_ with k:=7 } { lI with th:=(blk (σ,c)).1 },(blk (σ,c)).2)) ⟨_,_,s47,qJ ⟨rfl,rfl,rfl,rfl,rfl⟩⟩
 | false=>
  simp only [cond_false,Bool.false_eq_true,if_false];obtain ⟨h56,e56,r,d,s56,hs⟩:=eB2 (N:=N) hT hN s49;rw [e56,aA];obtain ⟨h58,e58,c58,y58⟩:=rF (N:=N) hT s56.pc (w:=[59]) (by decide);rw [e58,aA];simp only [aA,bA];exact fin (z:=((wE T at_ σ).1,(eD T [59] (wE T at_ σ).2,c))) ⟨r,d,s56.step c58 y58,hs⟩
end
end Qp
namespace Qp
def cE (T:List Tok) (one:SC→D×SC):Nat→SC→(List D×Bool)×SC
 | 0,s=>(([],false),s)
 | f+1,s=>
  if s.1.2.isSome=true then (([],false),s) else
  let b:=qB T [125] s.1
  if b.1=true then (([],false),(b.2,s.2)) else
  if s.2=2000∧(tk T s.1.1).1≠0 then (([],true),(cF T 5 s.1,s.2)) else
  let x:=one (s.1,s.2+1)
  ((x.1::(cE T one f x.2).1.1,(cE T one f x.2).1.2),(cE T one f x.2).2)
def mF (T:List Tok):Nat→SC→List D×SC
 | 0,s=>([],(cF T 6 s.1,s.2))
 | g+1,s=>
  let r:=cE T (mN T (mF T g)) 2001 (eD T [123] s.1,s.2)
  (if r.1.2=true then [] else r.1.1,r.2)
section
variable {T:List Tok}
theorem lAl {i:Nat} (h:(tk T i).1=0) (a:Int):(wE T a (i,none)).2.2.isSome=true:=by
 have hc:jH T (i,none)=false:=by simp [jH,bH,h]
 have ht:aC T 1 (i,none)=([],(i,some (21,((tk T i).2.2:Int)))):=by simp [aC,cF,h]
 simp only [wE,iAi h,Bool.false_eq_true,if_false,hc,dF,ht,aA1,jG,tU,Option.isSome_some]
theorem mAl {σ τ:St} (h:σ.2.isSome=true) (hs:∀ i e,σ=(i,some e)→τ=(i,some e)):τ.2.isSome=true:=by
 obtain ⟨i,e,rfl⟩:=mO h;rw [hs i e rfl];rfl
theorem yAq {blk:SC→List D×SC} (hK:∀ s,KS s→KS (blk s).2∧s.2≤(blk s).2.2) {σ:St} {c:Nat} (hk:KE T (σ,c)):KS (mN T blk (σ,c)).2∧c≤(mN T blk (σ,c)).2.2:=by
 simp only [mN]
 cases hb1:(qB T [108,101,116] σ).1 with
 | true=>
  simp only [if_true];exact ⟨.inl (hk.opt hb1),Nat.le_refl _⟩
 | false=>
 rw [tD hb1];simp only [Bool.false_eq_true,if_false]
 cases hb2:(qB T [105,102] σ).1 with
 | true=>
  have hc:=hk.opt hb2;simp only [if_true];have k1:=hK ((eF T (qB T [105,102] σ).2).2,c) (.inl hc);generalize blk ((eF T (qB T [105,102] σ).2).2,c)=t at *
  cases hb3:(qB T [101,108,115,101] t.2.1).1 with
  | true=>
   simp only [if_true];have k2:=hK ((qB T [101,108,115,101] t.2.1).2,t.2.2) (KS.err (σ:=t.2.1) k1.1 (fun i e h=>by rw [h,rH]));exact ⟨k2.1,Nat.le_trans k1.2 k2.2⟩
  | false=>
   simp only [Bool.false_eq_true,if_false];exact ⟨KS.err (σ:=t.2.1) k1.1 (fun i e h=>by rw [h,rH]),k1.2⟩
 | false=>
 rw [tD hb2];simp only [Bool.false_eq_true,if_false]
 cases hb3:(qB T [119,104,105,108,101] σ).1 with
 | true=>
  simp only [if_true];exact hK _ (.inl (hk.opt hb3))
 | false=>
 rw [tD hb3];simp only [Bool.false_eq_true,if_false]
 cases hb4:(qB T [108,111,111,112] σ).1 with
 | true=>
  simp only [if_true];exact hK _ (.inl (hk.opt hb4))
 | false=>
 rw [tD hb4];simp only [Bool.false_eq_true,if_false]
 cases hb5:(qB T [123] σ).1 with
 | true=>
  simp only [if_true];exact hK _ (.inl (hk.opt hb5))
 | false=>
  simp only [Bool.false_eq_true,if_false];refine ⟨?_,Nat.le_refl _⟩;rcases hk with (hk | hk) | ⟨hk,he⟩
  ·exact .inl hk
  ·obtain ⟨i,e,rfl⟩:=mO hk
   refine .inr ?_;show (eD T [59] (wE T _ (i,some e)).2).2.isSome=true;rw [fA4,jG];rfl
  ·obtain ⟨i,e⟩:=σ
   refine .inr ?_;show (eD T [59] (wE T _ (i,e)).2).2.isSome=true
   have:(wE T ((tk T i).2.2:Int) (i,e)).2.2.isSome=true:=by
    cases e with
    | some e=>rw [fA4];rfl
    | none=>exact lAl he _
   exact mAl this (fun j f h=>by
    show eD T [59] (wE T ((tk T i).2.2:Int) (i,e)).2=_;rw [h,jG])
theorem jAi {one:SC→D×SC} (hO:∀ s,KE T s→KS (one s).2∧s.2≤(one s).2.2):∀ (f:Nat) (s:SC),KS s→KS (cE T one f s).2∧s.2≤(cE T one f s).2.2
 | 0,s,hk=>⟨hk,Nat.le_refl _⟩
 | f+1,(σ,c),hk=>by
  simp only [cE]
  cases hn:σ.2.isSome with
  | true=>simp only [if_true];exact ⟨hk,Nat.le_refl _⟩
  | false=>
  simp only [Bool.false_eq_true,if_false];have hc:c≤2000:=by
   rcases hk with hk | hk
   ·exact hk
   ·rw [hn] at hk;cases hk
  cases hb:(qB T [125] σ).1 with
  | true=>simp only [if_true];exact ⟨.inl hc,Nat.le_refl _⟩
  | false=>
  simp only [Bool.false_eq_true,if_false]
  by_cases q:c=2000∧(tk T σ.1).1≠0
  ·rw [if_pos q];exact ⟨.inl hc,Nat.le_refl _⟩
  ·rw [if_neg q]
   have h1:=hO (σ,c+1) (by
    by_cases q1:c=2000
    ·refine .inr ⟨by show c+1≤2001;omega,?_⟩
     by_cases q2:(tk T σ.1).1=0
     ·exact q2
     ·exact absurd ⟨q1,q2⟩ q
    ·exact .inl (.inl (by show c+1≤2000;omega)))
   have h2:=jAi hO f (one (σ,c+1)).2 h1.1;exact ⟨h2.1,Nat.le_trans (Nat.le_of_succ_le h1.2) h2.2⟩
theorem fY:∀ (g:Nat) (s:SC),KS s→KS (mF T g s).2∧s.2≤(mF T g s).2.2
 | 0,(σ,c),hk=>⟨KS.err hk (fun i e h=>by
   show cF T 6 σ=_;rw [h,iAb]),Nat.le_refl _⟩
 | g+1,(σ,c),hk=>by
  simp only [mF]
  have:=jAi (T:=T) (one:=mN T (mF T g)) (fun s hs=>yAq (fY g) (σ:=s.1) (c:=s.2) hs) 2001 (eD T [123] σ,c) (KS.err hk (fun i e h=>by rw [h,jG]))
  exact this
end
theorem tBe:AppN E 42 106 32 10000:=AppN.of (by kernel_rfl)
section
variable {N:Nat} {T:List Tok} {P:Nat} {X:List Nat} {h:Heap} {σ:St} {st:Int}
theorem PC.setSt (x:PC T P X h σ st) (st':Int):∃ h',h.store (P,2) [.int .i64 st']=some h'∧Chg [P] h h'∧PC T P X h' σ st':=by
 obtain ⟨⟨⟨s,v,h1,h2,h3,h4⟩,h5,h6⟩,hp,p4⟩:=x;have c:=h1.put [SL.av s,.int .i64 (σ.1:Int),.int .i64 st',v];have hl:=h1.2;refine ⟨_,h1.store1 (j:=2) (by show 2<4;omega) _,c,⟨⟨s,v,iB h1 _,h2.chg c (fun A hA=>by simp;omega),h3,h4.chg c (fun A hA=>.inl (by simpa using hA))⟩,h5,fun A hA=>h6 A hA⟩,jN c (by simp;omega) (by omega) hp,p4⟩
theorem PC.readSt (x:PC T P X h σ st):h.cell (P,2)=some (.int .i64 st):=by
 obtain ⟨⟨⟨s,v,h1,_⟩,_⟩,_⟩:=x;exact h1.cell 2
def iB9 (T:List Tok) (P:Nat) (G:zT2→Int→Heap→Option (SmV×Heap)) (one:SC→D×SC) (deep:Int):Prop:=∀ (X:List Nat) (h:Heap) (σ:St) (c:Nat),PC T P X h σ (c:Int)→KE T (σ,c)→∃ r h',G (some (P,0)) deep h=some (r,h')∧PC T P X h' (one (σ,c)).2.1 ((one (σ,c)).2.2:Int)∧Chg [P] h h'∧Dt h' (fun C=>h.next≤C) (one (σ,c)).1 (smx r)
theorem nAl (hT:Toks T) {F} {G:zT2→Int→Heap→Option (SmV×Heap)} {one:SC→D×SC} {deep:Int} (hG:iB9 T P G one deep) (hO:∀ s,KE T s→KS (one s).2∧s.2≤(one s).2.2) {h0:Heap} {v4:SL} (hP0:P<h0.next):∀ (f M:Nat) (h:Heap) (σ:St) (c:Nat) (v:SL) (xs:List D),f<M→2001≤c+f→xs.length≤c→KS (σ,c)→PC T P X h σ (c:Int)→Chg [P] h0 h→Ow h0.next h v 32 xs→
  ∃ o r h',tA0 N F G M (some (P,0)) deep ⟨none,0,0,0⟩ v h=some (o,r,h')∧PC T P X h' (cE T one f (σ,c)).2.1 ((cE T one f (σ,c)).2.2:Int)∧Chg [P] h0 h'∧
   (((cE T one f (σ,c)).1.2=false∧o=.exit 0∧Ow h0.next h' r.2.1 32 (xs++(cE T one f (σ,c)).1.1))∨((cE T one f (σ,c)).1.2=true∧o=.ret∧r.1=⟨none,0,0,0⟩)):=by
 intro f
 induction f with
 | zero=>
  intro M h σ c v xs hM hc hx hk x ch w;obtain ⟨M,rfl⟩:∃ m,M=m+1:=⟨M-1,by omega⟩;rw [iN];unfold gN;obtain ⟨e,k3,hv⟩:=x.pa.readE;have hs:σ.2.isSome=true:=by
   rcases hk with hk | hk
   ·have hk:c≤2000:=hk;omega
   ·exact hk
  have hs':σ.2.isNone=false:=by cases hh:σ.2 <;> simp_all
  simp only [bA,Nat.zero_add,k3,fA,wD,hv.eq 15,jB,hs',cond_false,cE];exact ⟨_,_,h,rfl,x,ch,.inl ⟨trivial,rfl,by rw [List.append_nil];exact w⟩⟩
 | succ f ih=>
  intro M h σ c v xs hM hc hx hk x ch w;obtain ⟨M,rfl⟩:∃ m,M=m+1:=⟨M-1,by omega⟩;rw [iN];unfold gN;obtain ⟨e,k3,hv⟩:=x.pa.readE;simp only [bA,Nat.zero_add,k3,fA,wD,hv.eq 15,jB,cE]
  cases hn:σ.2 with
  | some q=>
   simp only [Option.isNone_some,cond_false,Option.isSome_some,if_true];exact ⟨_,_,h,rfl,x,ch,.inl ⟨trivial,rfl,by rw [List.append_nil];exact w⟩⟩
  | none=>
  simp only [Option.isNone_none,cond_true,Option.isSome_none,Bool.false_eq_true,if_false];have hc2:c≤2000:=by
   rcases hk with hk | hk
   ·exact hk
   ·simp [hn] at hk
  obtain ⟨h12,e12,c12,x12⟩:=gI (N:=N) hT x (w:=[125]) (by decide);rw [e12,aA];have w12:=w.chg c12 (by intro A hA;rw [List.mem_singleton] at hA;omega);have ch12:=ch.trans c12
  cases hb:(qB T [125] σ).1 with
  | true=>
   simp only [Bool.not_true,cond_false,if_true];exact ⟨_,_,h12,rfl,x12,ch12,.inl ⟨trivial,rfl,by rw [List.append_nil];exact w12⟩⟩
  | false=>
  rw [tD hb] at x12;simp only [Bool.not_false,cond_true,Bool.false_eq_true,if_false,x12.readSt,fA,kB,eqI]
  -- is it too long?
  have hlong:∃ h21,(bif decide ((c:Int)=2000) then
    (kA (f56 N (some (P,0)) h12) fun (x17:zQ) h18=>
    let x19:Bool:=!decide (x17.1=0)
    some ((some (P,0),deep,(⟨none,0,0,0⟩:SL),v,x19,()),h18))
    else
    some ((some (P,0),deep,(⟨none,0,0,0⟩:SL),v,false,()),h12))=some ((some (P,0),deep,(⟨none,0,0,0⟩:SL),v,decide (c=2000∧(tk T σ.1).1≠0),()),h21)∧Chg [] h12 h21:=by
   by_cases q:c=2000
   ·obtain ⟨h18,e18,c18⟩:=iM (N:=N) x12.pa
    have q':((c:Int)=2000):=by omega
    simp only [q',decide_true,cond_true];rw [e18,aA];refine ⟨h18,?_,c18⟩;simp only [tAh,q,true_and]
    by_cases q2:(tk T σ.1).1=0
    ·simp [q2]
    ·simp [q2]
   ·have q':¬ ((c:Int)=2000):=by omega
    simp only [q',decide_false,cond_false,q,false_and];exact ⟨h12,rfl,Chg.refl _ _⟩
  obtain ⟨h21,e21,c21⟩:=hlong;rw [e21,aA];have x21:=x12.chg c21;have w21:=w12.chg c21 (by simp);have ch21:=ch12.trans (c21.mono (N:=[P]) (by simp))
  by_cases q:c=2000∧(tk T σ.1).1≠0
  ·simp only [q,decide_true,cond_true,if_true,ne_eq,not_false_eq_true,and_self]
   obtain ⟨h23,e23,c23,x23⟩:=eAi (N:=N) x21 (c:=5) (by decide);rw [e23,aA];have q1:=q.1;subst q1;exact ⟨_,_,h23,rfl,x23,ch21.trans c23,.inr ⟨trivial,rfl,rfl⟩⟩
  ·rw [if_neg q]
   simp only [q,decide_false,cond_false,bA,Nat.zero_add,x21.readSt,fA,kB];rw [rB (by omega)];obtain ⟨h28,e28,c28,x28⟩:=x21.setSt ((c+1:Nat):Int);rw [e28,bA];have w28:=w21.chg c28 (by intro A hA;rw [List.mem_singleton] at hA;omega);have ch28:=ch21.trans c28;have hge:∀ A∈v.blk.toList,h0.next≤A∧A<h28.next:=fun A hA=>w28.ge A (by simpa using hA);obtain ⟨i,er⟩:=σ;simp only at hn;subst hn;have hke:KE T ((i,none),c+1):=by
    by_cases q1:c=2000
    ·refine .inr ⟨by show c+1≤2001;omega,?_⟩
     by_cases q2:(tk T i).1=0
     ·exact q2
     ·exact absurd ⟨q1,q2⟩ q
    ·exact .inl (.inl (by show c+1≤2000;omega))
   obtain ⟨r,h30,e30,x30,c30,d30⟩:=hG (v.blk.toList++X) h28 (i,none) (c+1) (x28.free fun A hA=>by
    rcases List.mem_append.1 hA with hA | hA
    ·have:=hge A hA;omega
    ·exact x28.pa.xl A hA) hke
   rw [e30,aA];have hk1:=hO ((i,none),c+1) hke;have w30:=w28.chg c30 (by intro A hA;rw [List.mem_singleton] at hA;omega);have ch30:=ch28.trans c30;have hn28:=ch28.next;obtain ⟨v',h33,eK,w33,c33,hb33⟩:=fAq tBe (by decide) ch30 w30 (d30.weak (W:=fun C=>h0.next≤C∧v.blk≠some C) fun C hC _=>⟨by omega,fun e=>by have:=hge C (by simpa using e);omega⟩) rfl (by
    have:(xs.length+1) * 10000≤2001 * 10000:=Nat.mul_le_mul_right _ (by omega)
    omega)
   have x33:=(x30.chgM c33 (fun A hA=>List.mem_append_left _ hA)).sub (X':=X) (fun A hA=>List.mem_append_right _ hA);have ch33:=ch30.step c33 (fun A hA hl=>by have:=hge A hA;omega);generalize one ((i,none),c+1)=z at *
   have:=ih M h33 z.2.1 z.2.2 v' (xs++[z.1]) (by omega) (by have:c+1≤z.2.2:=hk1.2;omega) (by simp;have:c+1≤z.2.2:=hk1.2;omega) hk1.1 x33 ch33 w33
   rw [List.append_assoc] at this;obtain ⟨o,rr,h',e',x',c',hres⟩:=this;exact ⟨o,rr,h',(eK _).trans e',x',c',hres⟩
end
end Qp
namespace Qp
theorem nN (T:List Tok) (k:Int) (σ:St):(cF T k σ).2.isSome=true:=by
 obtain ⟨i,e⟩:=σ;cases e <;> rfl
theorem pAv {T:List Tok} {w:Bs} {σ:St} (h:σ.2.isSome=true):eD T w σ=σ:=by
 obtain ⟨i,e,rfl⟩:=mO h;exact jG T i e w
section
variable {N:Nat} {T:List Tok} {P:Nat} {X:List Nat} {h:Heap} {σ:St} {st:Int}
theorem qAv (hT:Toks T) (hN:3000≤N):∀ (g M:Nat),g≤64→2 * g+1≤M→gB9 N T P (f158 N M) (mF T g) ((65-g:Nat):Int):=by
 intro g
 induction g with
 | zero=>
  intro M hg hM X h σ c x hk;obtain ⟨M,rfl⟩:∃ m,M=m+1:=⟨M-1,by omega⟩;rw [fAb];unfold bAi;simp only [show uB 64 ((65-0:Nat):Int)=true from rfl,cond_true];obtain ⟨h3,e3,c3,x3⟩:=eAi (N:=N) x (c:=6) (by decide);rw [e3,aA,aA];dsimp only;obtain ⟨h7,e7,c7,x7⟩:=rF (N:=N) hT x3 (w:=[123]) (by decide);rw [e7,aA];have hs:=nN T 6 σ;rw [pAv hs] at x7;obtain ⟨n,hn⟩:∃ n,N=n+1:=⟨N-1,by omega⟩;have hl:∀ (F G) (M:Nat),tA0 N F G (M+1) (some (P,0)) ((65-0:Nat):Int) ⟨none,0,0,0⟩ ⟨none,0,0,0⟩ h7=some (.exit 0,(⟨none,0,0,0⟩,⟨none,0,0,0⟩,()),h7):=by
   intro F G M;rw [iN];unfold gN;obtain ⟨e,k3,hv⟩:=x7.pa.readE;have hs':(cF T 6 σ).2.isNone=false:=by cases hh:(cF T 6 σ).2 <;> simp_all
   simp only [bA,Nat.zero_add,k3,fA,wD,hv.eq 15,jB,hs',cond_false]
  have hl':=hl (f158 N M) (f190 N M) n;rw [← hn] at hl';rw [hl'];simp only [yB];exact ⟨sl0,h7,rfl,x7,c3.trans c7,Sl.nil _ _ _⟩
 | succ g ih=>
  intro M hg hM X h σ c x hk;obtain ⟨M,rfl⟩:∃ m,M=m+2:=⟨M-2,by omega⟩;rw [fAb];unfold bAi;have hlt:uB 64 ((65-(g+1):Nat):Int)=false:=by rw [ltI];exact decide_eq_false (by omega)
  simp only [hlt,cond_false,aA];obtain ⟨h7,e7,c7,x7⟩:=rF (N:=N) hT x (w:=[123]) (by decide);rw [e7,aA];have hB:=ih M (by omega) (by omega);have hd:65-g=(65-(g+1))+1:=by omega
  rw [hd] at hB;have hone:iB9 T P (f190 N (M+1)) (mN T (mF T g)) ((65-(g+1):Nat):Int):=by
   intro X h σ c x hk;rw [dAq];exact fB2 hT (by omega) (by omega) hB (fun s hs=>(fY g s hs).1) x hk
  have hk7:KS (eD T [123] σ,c):=hk.err (fun i e h=>by rw [h,jG]);obtain ⟨o,r,h',e',x',c',hres⟩:=nAl (N:=N) hT (F:=f158 N (M+1)) hone (fun s hs=>yAq (fY g) (σ:=s.1) (c:=s.2) hs) (h0:=h7) (v4:=sl0) x7.P_lt 2001 N h7 _ c sl0 [] (by omega) (by omega) (by simp) hk7 x7 (Chg.refl _ _) (Ow.nil _ _ _ _);rw [e'];simp only [yB,mF];have hn7:=c7.next;rcases hres with ⟨e1,rfl,w⟩ | ⟨e1,rfl,e2⟩
  ·rw [e1]
   rw [List.nil_append] at w;exact ⟨_,h',rfl,x',c7.trans c',w.sl.weak fun C hC _=>by omega⟩
  ·rw [e1]
   exact ⟨_,h',rfl,x',c7.trans c',by rw [e2];exact Sl.nil _ _ _⟩
end
structure FuR where
 pub:Bool
 nm:Bs
 lv:SL
 ps:SL
 ty:TyV
 bd:SL
 at_:Int
structure FuT where
 lv:List D
 ps:List D
 ty:D
 bd:List D
abbrev FuV:=Bool×zA3×SL×SL×Int×zA3×SL×SL×SL×Int×Unit
def fux (x:FuV):List AV:=[.bool x.1,.str x.2.1,.slice x.2.2.1.a x.2.2.1.len x.2.2.1.cap x.2.2.1.sz,.slice x.2.2.2.1.a x.2.2.2.1.len x.2.2.2.1.cap x.2.2.2.1.sz,.int .i64 x.2.2.2.2.1,.str x.2.2.2.2.2.1,.slice x.2.2.2.2.2.2.1.a x.2.2.2.2.2.2.1.len x.2.2.2.2.2.2.1.cap x.2.2.2.2.2.2.1.sz,.slice x.2.2.2.2.2.2.2.1.a x.2.2.2.2.2.2.2.1.len x.2.2.2.2.2.2.2.1.cap x.2.2.2.2.2.2.2.1.sz,.slice x.2.2.2.2.2.2.2.2.1.a x.2.2.2.2.2.2.2.2.1.len x.2.2.2.2.2.2.2.2.1.cap x.2.2.2.2.2.2.2.2.1.sz,.int .i64 x.2.2.2.2.2.2.2.2.2.1]
def fuv (r:FuR):FuV:=(r.pub,r.nm,r.lv,r.ps,r.ty.1,r.ty.2.1,r.ty.2.2.1,r.ty.2.2.2.1,r.bd,r.at_,())
def fuc (r:FuR):List AV:=fux (fuv r)
def fuD (r:FuR) (d:FuT):D:=.t [.b r.pub,.s r.nm,.l d.lv,.l d.ps,d.ty,.l d.bd,.i r.at_]
def dJ (pub:Bool) (nm:Bs) (at_:Int):FuR:=⟨pub,nm,sl0,sl0,eAy,sl0,at_⟩
def dB5:FuT:=⟨[],[],ty0D,[]⟩
theorem uBe {β:Type} (r:FuV) (K:FuV→Option β):iA (.val zD) (some (.agg (fux r))) K=K r:=by
 obtain ⟨x1,x2,x3,x4,x5,x6,x7,x8,x9,x10,_⟩:=r;simp [fux]
theorem gAy {H:Heap} {A:Nat} {r:FuV} (o:H.own A (fux r)) {β:Type} (K:FuV→Option β):iA (.val zD) (H.cells (A,0) 10) K=K r:=by
 have:H.cells (A,0) 10=some (.agg (fux r)):=o.cells (j:=0) (m:=10) (Nat.le_refl _)
 rw [this,uBe]
theorem fBh {H:Heap} {A:Nat} {r0:FuV} (o:H.own A (fux r0)) (x:FuV) {β:Type} (K:FuV→Heap→Option β) :
  (uA (H.store (A,0) [.bool x.1,.str x.2.1,.slice x.2.2.1.a x.2.2.1.len x.2.2.1.cap x.2.2.1.sz,.slice x.2.2.2.1.a x.2.2.2.1.len x.2.2.2.1.cap x.2.2.2.1.sz,.int .i64 x.2.2.2.2.1,.str x.2.2.2.2.2.1,.slice x.2.2.2.2.2.2.1.a x.2.2.2.2.2.2.1.len x.2.2.2.2.2.2.1.cap x.2.2.2.2.2.2.1.sz,.slice x.2.2.2.2.2.2.2.1.a x.2.2.2.2.2.2.2.1.len x.2.2.2.2.2.2.2.1.cap x.2.2.2.2.2.2.2.1.sz,.slice x.2.2.2.2.2.2.2.2.1.a x.2.2.2.2.2.2.2.2.1.len x.2.2.2.2.2.2.2.2.1.cap x.2.2.2.2.2.2.2.2.1.sz,.int .i64 x.2.2.2.2.2.2.2.2.2.1]) fun h7=>iA (.val zD) (h7.cells (A,0) 10) fun x8=>K x8 h7)=K x (H.put A (.row (fux x) .own)):=by
 have:H.store (A,0) (fux x)=some (H.put A (.row (fux x) .own)):=o.store rfl
 show (uA (H.store (A,0) (fux x)) _)=_;rw [this,bA,gAy (iB o _)]
structure FI (T:List Tok) (P:Nat) (X:List Nat) (hb:Heap) (Q R O:Nat) (r:FuR) (d:FuT) (h:Heap) (σ:St) (st:Int):Prop where
 pc:PC T P (O::R::X) h σ st
 chg:Chg [P] hb h
 oQ:h.own Q [.ptr (some (P,0))]
 oR:h.own R (fuc (dJ false [] 0))
 oO:h.own O (fuc r)
 le:hb.next≤Q∧Q<R∧R<O∧P<hb.next
 dlv:Sl h (fun C=>O<C) r.lv d.lv
 dps:Sl h (fun C=>O<C) r.ps d.ps
 dty:Dt h (fun C=>O<C) d.ty (tyc r.ty)
 dbd:Sl h (fun C=>O<C) r.bd d.bd
section
variable {T:List Tok} {P:Nat} {X:List Nat} {st st':Int} {hb h h':Heap} {Q R O:Nat} {r r':FuR} {d d':FuT} {σ σ':St}
theorem FI.dt (x:FI T P X hb Q R O r d h σ st):Dt h (fun C=>O<C) (fuD r d) (fuc r):=
 mAv (kC (a:=[_]) (pB1 h _ r.pub) (kC (a:=[_]) (pJ h _ r.nm) (kC (a:=[_]) (bP.2 x.dlv) (kC (a:=[_]) (bP.2 x.dps) (kC (a:=tyc r.ty) x.dty (kC (a:=[_]) (bP.2 x.dbd) (kC (a:=[_]) (b:=[]) (jAl h _ r.at_) (fW h _))))))))
theorem FI.old (x:FI T P X hb Q R O r d h σ st) (c:Chg [P,O] h h'):Chg [P] hb h'∧h'.own Q [.ptr (some (P,0))]∧h'.own R (fuc (dJ false [] 0))∧Sl h' (fun C=>O<C) r.lv d.lv∧Sl h' (fun C=>O<C) r.ps d.ps∧Dt h' (fun C=>O<C) d.ty (tyc r.ty)∧Sl h' (fun C=>O<C) r.bd d.bd:=by
 obtain ⟨x1,x2,x3,x4,x5,x6,x7,x8,x9,x10⟩:=x;have hM:∀ A,O<A→A ∉ [P,O]:=fun C hC=>by simp;omega
 exact ⟨x2.step c (fun A hA hl=>by simp only [List.mem_cons,List.not_mem_nil,or_false] at hA ⊢;omega),x3.chg c (by simp;omega),x4.chg c (by simp;omega),x7.chg c hM,x8.chg c hM,x9.chg c hM,x10.chg c hM⟩
theorem FI.step (x:FI T P X hb Q R O r d h σ st) (c:Chg [P] h h') (y:PC T P (O::R::X) h' σ' st'):FI T P X hb Q R O r d h' σ' st':=by
 have hle:=x.le;obtain ⟨g1,g2,g3,g4,g5,g6,g7⟩:=x.old (c.mono (by simp));exact ⟨y,g1,g2,g3,x.oO.chg c (by simp;omega),x.le,g4,g5,g6,g7⟩
theorem FI.lt (x:FI T P X hb Q R O r d h σ st):O<h.next:=x.oO.2
end
def gJ (T:List Tok) (pub:Bool) (at_:Int) (σ:St):D×SC:=
 let n:=aC T 1 σ
 let a:=qB T [60] n.2
 let l:=if a.1=true then ((yD T (eY T) [44] a.2).1,eD T [62] (yD T (eY T) [44] a.2).2) else ([],a.2)
 let b:=qB T [41] (eD T [40] l.2)
 let p:=if b.1=true then ([],b.2) else ((yD T (bG T) [44] b.2).1,eD T [41] (yD T (bG T) [44] b.2).2)
 let c:=qB T [45,62] p.2
 let t:=if c.1=true then fL T 64 c.2 else (ty0D,c.2)
 let k:=mF T 64 (t.2,0)
 (fuD (dJ pub n.1 at_) ⟨l.1,p.1,t.1,k.1⟩,k.2)
theorem fu2 (r:FuR) (v:SL):(fuc { r with lv:=v })[2]? = some (SL.av v):=by simp [fuc,fux,fuv,SL.av]
theorem fs2 (r:FuR) (v v':SL):(fuc { r with lv:=v }).set 2 (SL.av v')=fuc { r with lv:=v' }:=by simp [fuc,fux,fuv,SL.av]
theorem fu3 (r:FuR) (v:SL):(fuc { r with ps:=v })[3]? = some (SL.av v):=by simp [fuc,fux,fuv,SL.av]
theorem fs3 (r:FuR) (v v':SL):(fuc { r with ps:=v }).set 3 (SL.av v')=fuc { r with ps:=v' }:=by simp [fuc,fux,fuv,SL.av]
end Qp
namespace Qp
section
variable {N:Nat} {T:List Tok} {P:Nat} {X:List Nat} {h:Heap} {σ:St} {st:Int}
theorem gB2 (hT:Toks T) (hN:3000≤N) (x:PC T P X h σ st) (pub:Bool) (at_:Int):∃ r h',f103 N (some (P,0)) pub at_ h=some (r,h')∧PC T P X h' (gJ T pub at_ σ).2.1 ((gJ T pub at_ σ).2.2:Int)∧Chg [P] h h'∧Dt h' (fun C=>h.next≤C) (gJ T pub at_ σ).1 (fux r):=by
 unfold f103;have hN1:100≤N:=by omega
 have hP:=x.P_lt;have oQ:=wA h [AV.ptr (some (P,0))];have cQ:=vA h (.row [AV.ptr (some (P,0))] .own);have nQ:(h.push (.row [AV.ptr (some (P,0))] .own)).next=h.next+1:=rfl;dsimp only;generalize h.push (.row [AV.ptr (some (P,0))] .own)=h1 at *;have oR:=wA h1 (fuc (dJ false [] 0));have cR:=vA h1 (.row (fuc (dJ false [] 0)) .own);have eR:h1.push (.row [(.bool false),(.str []),(.slice none 0 0 0),(.slice none 0 0 0),(.int .i64 0),(.str []),(.slice none 0 0 0),(.slice none 0 0 0),(.slice none 0 0 0),(.int .i64 0)] .own)=h1.push (.row (fuc (dJ false [] 0)) .own):=rfl;have nR:(h1.push (.row (fuc (dJ false [] 0)) .own)).next=h1.next+1:=rfl;have x2:=(x.chg cQ).add cR (A:=h1.next) (Nat.le_refl _) (Nat.lt_succ_self _);rw [eR];generalize h1.push (.row (fuc (dJ false [] 0)) .own)=h2 at *;have oQ2:=oQ.chg cR (by simp);have c02:=cQ.trans cR;have r2:h2.cell (h.next,0)=some (.ptr (some (P,0))):=oQ2.cell 0;simp only [r2,fA,wB,bA,Nat.zero_add];obtain ⟨h5,e5,c5,x5⟩:=x2.setSt 0;rw [e5,bA];have oQ5:=oQ2.chg c5 (by simp;omega);have r5:h5.cell (h.next,0)=some (.ptr (some (P,0))):=oQ5.cell 0;simp only [r5,fA,wB];obtain ⟨h8,e8,c8,x8⟩:=gT (N:=N) hT x5 (k:=1) (by decide);rw [e8,aA];have c28:=c5.trans c8;have oQ8:=oQ5.chg c8 (by simp;omega);have oR8:=oR.chg c28 (by simp;omega);have hn8:=c28.next;simp only [gJ];generalize (aC T 1 σ).1=nm at *;generalize (aC T 1 σ).2=σ1 at *;have oO0:=wA h8 (fuc (dJ false [] 0));have cO0:=vA h8 (.row (fuc (dJ false [] 0)) .own);have eO:h8.push (.row [(.bool false),(.str []),(.slice none 0 0 0),(.slice none 0 0 0),(.int .i64 0),(.str []),(.slice none 0 0 0),(.slice none 0 0 0),(.slice none 0 0 0),(.int .i64 0)] .own)=h8.push (.row (fuc (dJ false [] 0)) .own):=rfl;have hstO:(h8.push (.row (fuc (dJ false [] 0)) .own)).store (h8.next,0) [(.bool pub),(.str nm),(.slice none 0 0 0),(.slice none 0 0 0),(.int .i64 0),(.str []),(.slice none 0 0 0),(.slice none 0 0 0),(.slice none 0 0 0),(.int .i64 at_)]=some ((h8.push (.row (fuc (dJ false [] 0)) .own)).put h8.next (.row (fuc (dJ pub nm at_)) .own)):=oO0.store rfl;rw [eO,hstO,bA];have oO:=iB oO0 (fuc (dJ pub nm at_));have cO:Chg [] h8 ((h8.push (.row (fuc (dJ false [] 0)) .own)).put h8.next (.row (fuc (dJ pub nm at_)) .own)):=cO0.put (.inr (Nat.le_refl _)) _;have nO:((h8.push (.row (fuc (dJ false [] 0)) .own)).put h8.next (.row (fuc (dJ pub nm at_)) .own)).next=h8.next+1:=rfl;have x10:=x8.add cO (A:=h8.next) (Nat.le_refl _) (Nat.lt_succ_self _);have oQ10:=oQ8.chg cO (by simp);have oR10:=oR8.chg cO (by simp);have c010:Chg [P] h ((h8.push (.row (fuc (dJ false [] 0)) .own)).put h8.next (.row (fuc (dJ pub nm at_)) .own)):=((c02.mono (by simp)).trans c28).trans (cO.mono (by simp));generalize (h8.push (.row (fuc (dJ false [] 0)) .own)).put h8.next (.row (fuc (dJ pub nm at_)) .own)=h10 at *;have i10:FI T P X h h.next h1.next h8.next (dJ pub nm at_) dB5 h10 σ1 0:=⟨x10,c010,oQ10,oR10,oO,⟨Nat.le_refl _,by omega,by omega,hP⟩,Sl.nil _ _ _,Sl.nil _ _ _,fN _ _ _ _,Sl.nil _ _ _⟩;generalize hQe:h.next=Q at *;generalize h1.next=R at *;generalize h8.next=O at *;have q10:h10.cell (Q,0)=some (.ptr (some (P,0))):=i10.oQ.cell 0;simp only [q10,fA,wB];obtain ⟨h13,e13,c13,y13⟩:=gI (N:=N) hT i10.pc (w:=[60]) (by decide);rw [e13,aA];have i13:=i10.step c13 y13;have q13:h13.cell (Q,0)=some (.ptr (some (P,0))):=i13.oQ.cell 0
 -- lifetimes
 have h21s:∃ v h21,(bif (qB T [60] σ1).1 then
    (iA (.val zU2) (h13.cell (Q,0)) fun (x14:zT2)=>
    (kA (bT N x14 [44] ((some (O,0)),(some (Q,0)),()) h13) fun (x15:(Unit)) h16=>
    (iA (.val zU2) (h16.cell (Q,0)) fun (x17:zT2)=>
    (kA (f149 N x17 [62] h16) fun (x18:(Unit)) h19=>
    some (((some (Q,0)),(some (R,0)),(some (O,0)),()),h19)))))
    else
    some (((some (Q,0)),(some (R,0)),(some (O,0)),()),h13))=some (((some (Q,0)),(some (R,0)),(some (O,0)),()),h21)∧
   FI T P X h Q R O { dJ pub nm at_ with lv:=v } { dB5 with lv:=(if (qB T [60] σ1).1=true then ((yD T (eY T) [44] (qB T [60] σ1).2).1,eD T [62] (yD T (eY T) [44] (qB T [60] σ1).2).2) else ([],(qB T [60] σ1).2)).1 } h21 (if (qB T [60] σ1).1=true then ((yD T (eY T) [44] (qB T [60] σ1).2).1,eD T [62] (yD T (eY T) [44] (qB T [60] σ1).2).2) else ([],(qB T [60] σ1).2)).2 0:=by
  have hle:=i13.le
  cases hb:(qB T [60] σ1).1 with
  | false=>exact ⟨sl0,h13,rfl,i13⟩
  | true=>
   simp only [cond_true,if_true,q13,fA,wB];have hl:=i13.lt;have f:CF P (O::R::X) h13 O Q 2 2 (fun v=>fuc { dJ pub nm at_ with lv:=v }):=⟨by omega,by omega,by simp,fun v=>fu2 _ v,fun v v'=>fs2 _ v v'⟩;obtain ⟨h16,e16,ci⟩:=nAq (N:=N) hT hN1 f ⟨i13.pc,Chg.refl _ _,i13.oQ,sl0,i13.oO,Ow.nil _ _ _ _⟩;rw [e16,aA];obtain ⟨v,oO16,w16⟩:=ci.ex;have q16:h16.cell (Q,0)=some (.ptr (some (P,0))):=ci.q.cell 0;simp only [q16,fA,wB];obtain ⟨g1,g2,g3,g4,g5,g6,g7⟩:=i13.old ci.chg;have i16:FI T P X h Q R O { dJ pub nm at_ with lv:=v } { dB5 with lv:=(yD T (eY T) [44] (qB T [60] σ1).2).1 } h16 (yD T (eY T) [44] (qB T [60] σ1).2).2 0:=⟨ci.pc,g1,g2,g3,oO16,i13.le,w16.sl.weak (fun C hC _=>by omega),g5,g6,g7⟩;obtain ⟨h19,e19,c19,y19⟩:=rF (N:=N) hT i16.pc (w:=[62]) (by decide);rw [e19,aA];exact ⟨v,h19,rfl,i16.step c19 y19⟩
 obtain ⟨lv,h21,e21,i21⟩:=h21s;rw [e21,aA];generalize (if (qB T [60] σ1).1=true then ((yD T (eY T) [44] (qB T [60] σ1).2).1,eD T [62] (yD T (eY T) [44] (qB T [60] σ1).2).2) else ([],(qB T [60] σ1).2))=zl at *;have q21:h21.cell (Q,0)=some (.ptr (some (P,0))):=i21.oQ.cell 0;simp only [bA,q21,fA,wB];obtain ⟨h25,e25,c25,y25⟩:=rF (N:=N) hT i21.pc (w:=[40]) (by decide);rw [e25,aA];have i25:=i21.step c25 y25;have q25:h25.cell (Q,0)=some (.ptr (some (P,0))):=i25.oQ.cell 0;simp only [q25,fA,wB];obtain ⟨h29,e29,c29,y29⟩:=gI (N:=N) hT i25.pc (w:=[41]) (by decide);rw [e29,aA];have i29:=i25.step c29 y29;have q29:h29.cell (Q,0)=some (.ptr (some (P,0))):=i29.oQ.cell 0;have h40s:∃ v h40,(bif !(qB T [41] (eD T [40] zl.2)).1 then
    (iA (.val zU2) (h29.cell (Q,0)) fun (x32:zT2)=>
    (kA (cT N x32 [44] ((some (Q,0)),(some (O,0)),()) h29) fun (x33:(Unit)) h34=>
    (iA (.val zU2) (h34.cell (Q,0)) fun (x36:zT2)=>
    (kA (f149 N x36 [41] h34) fun (x37:(Unit)) h38=>
    some (((some (Q,0)),(some (R,0)),(some (O,0)),()),h38)))))
    else
    some (((some (Q,0)),(some (R,0)),(some (O,0)),()),h29))=some (((some (Q,0)),(some (R,0)),(some (O,0)),()),h40)∧
   FI T P X h Q R O { dJ pub nm at_ with lv:=lv,ps:=v } { dB5 with lv:=zl.1,ps:=(if (qB T [41] (eD T [40] zl.2)).1=true then ([],(qB T [41] (eD T [40] zl.2)).2) else ((yD T (bG T) [44] (qB T [41] (eD T [40] zl.2)).2).1,eD T [41] (yD T (bG T) [44] (qB T [41] (eD T [40] zl.2)).2).2)).1 } h40 (if (qB T [41] (eD T [40] zl.2)).1=true then ([],(qB T [41] (eD T [40] zl.2)).2) else ((yD T (bG T) [44] (qB T [41] (eD T [40] zl.2)).2).1,eD T [41] (yD T (bG T) [44] (qB T [41] (eD T [40] zl.2)).2).2)).2 0:=by
  have hle:=i29.le
  cases hb:(qB T [41] (eD T [40] zl.2)).1 with
  | true=>exact ⟨sl0,h29,rfl,i29⟩
  | false=>
   simp only [Bool.not_false,cond_true,Bool.false_eq_true,if_false,q29,fA,wB];have hl:=i29.lt;have f:CF P (O::R::X) h29 O Q 6 3 (fun v=>fuc { dJ pub nm at_ with lv:=lv,ps:=v }):=⟨by omega,by omega,by simp,fun v=>fu3 { dJ pub nm at_ with lv:=lv } v,fun v v'=>fs3 { dJ pub nm at_ with lv:=lv } v v'⟩;obtain ⟨h34,e34,ci⟩:=uAe (N:=N) hT hN1 f ⟨i29.pc,Chg.refl _ _,i29.oQ,sl0,i29.oO,Ow.nil _ _ _ _⟩;rw [e34,aA];obtain ⟨v,oO34,w34⟩:=ci.ex;have q34:h34.cell (Q,0)=some (.ptr (some (P,0))):=ci.q.cell 0;simp only [q34,fA,wB];obtain ⟨g1,g2,g3,g4,g5,g6,g7⟩:=i29.old ci.chg;have i34:FI T P X h Q R O { dJ pub nm at_ with lv:=lv,ps:=v } { dB5 with lv:=zl.1,ps:=(yD T (bG T) [44] (qB T [41] (eD T [40] zl.2)).2).1 } h34 (yD T (bG T) [44] (qB T [41] (eD T [40] zl.2)).2).2 0:=⟨ci.pc,g1,g2,g3,oO34,i29.le,g4,w34.sl.weak (fun C hC _=>by omega),g6,g7⟩;obtain ⟨h38,e38,c38,y38⟩:=rF (N:=N) hT i34.pc (w:=[41]) (by decide);rw [e38,aA];exact ⟨v,h38,rfl,i34.step c38 y38⟩
 obtain ⟨ps,h40,e40,i40⟩:=h40s;rw [e40,aA];generalize (if (qB T [41] (eD T [40] zl.2)).1=true then ([],(qB T [41] (eD T [40] zl.2)).2) else ((yD T (bG T) [44] (qB T [41] (eD T [40] zl.2)).2).1,eD T [41] (yD T (bG T) [44] (qB T [41] (eD T [40] zl.2)).2).2))=zp at *;have q40:h40.cell (Q,0)=some (.ptr (some (P,0))):=i40.oQ.cell 0;simp only [bA,q40,fA,wB];obtain ⟨h44,e44,c44,y44⟩:=gI (N:=N) hT i40.pc (w:=[45,62]) (by decide);rw [e44,aA];have i44:=i40.step c44 y44;have q44:h44.cell (Q,0)=some (.ptr (some (P,0))):=i44.oQ.cell 0;have h52s:∃ v h52,(bif (qB T [45,62] zp.2).1 then
    (iA (.val zU2) (h44.cell (Q,0)) fun (x46:zT2)=>
    (kA (f55 N N x46 1 h44) fun (x47:zP) h48=>
    (uA (h48.store (O,4) [(.int .i64 x47.1),(.str x47.2.1),(.slice x47.2.2.1.a x47.2.2.1.len x47.2.2.1.cap x47.2.2.1.sz),(.slice x47.2.2.2.1.a x47.2.2.2.1.len x47.2.2.2.1.cap x47.2.2.2.1.sz)]) fun h50=>
    some (((some (Q,0)),(some (R,0)),(some (O,0)),()),h50))))
    else
    some (((some (Q,0)),(some (R,0)),(some (O,0)),()),h44))=some (((some (Q,0)),(some (R,0)),(some (O,0)),()),h52)∧
   FI T P X h Q R O { dJ pub nm at_ with lv:=lv,ps:=ps,ty:=v } { dB5 with lv:=zl.1,ps:=zp.1,ty:=(if (qB T [45,62] zp.2).1=true then fL T 64 (qB T [45,62] zp.2).2 else (ty0D,(qB T [45,62] zp.2).2)).1 } h52 (if (qB T [45,62] zp.2).1=true then fL T 64 (qB T [45,62] zp.2).2 else (ty0D,(qB T [45,62] zp.2).2)).2 0:=by
  have hle:=i44.le
  cases hb:(qB T [45,62] zp.2).1 with
  | false=>exact ⟨eAy,h44,rfl,i44⟩
  | true=>
   simp only [cond_true,if_true,q44,fA,wB];have hl:=i44.lt;obtain ⟨t,h48,e48,y48,c48,d48⟩:=bAy (N:=N) hT hN1 i44.pc;rw [e48,aA];have i48:=i44.step c48 y48;have hst:h48.store (O,4) [(.int .i64 t.1),(.str t.2.1),(.slice t.2.2.1.a t.2.2.1.len t.2.2.1.cap t.2.2.1.sz),(.slice t.2.2.2.1.a t.2.2.2.1.len t.2.2.2.1.cap t.2.2.2.1.sz)]=some (h48.put O (.row (fuc { dJ pub nm at_ with lv:=lv,ps:=ps,ty:=t }) .own)):=fD i48.oO (by simp only [fuc,fux,fuv,kE,jE,lF,Option.map_some]);rw [hst,bA];have cp:=i48.oO.put (fuc { dJ pub nm at_ with lv:=lv,ps:=ps,ty:=t });obtain ⟨g1,g2,g3,g4,g5,g6,g7⟩:=i48.old (cp.mono (N:=[P,O]) (by simp));exact ⟨t,_,rfl,i48.pc.chg1 cp (by simp),g1,g2,g3,iB i48.oO _,i48.le,g4,g5,(d48.chg cp (fun C hC=>by simp;omega)).weak (fun C hC _=>by omega),g7⟩
 obtain ⟨t,h52,e52,i52⟩:=h52s;rw [e52,aA];generalize (if (qB T [45,62] zp.2).1=true then fL T 64 (qB T [45,62] zp.2).2 else (ty0D,(qB T [45,62] zp.2).2))=zt at *;have q52:h52.cell (Q,0)=some (.ptr (some (P,0))):=i52.oQ.cell 0;simp only [bA,q52,fA,wB];have hlt:=i52.lt;have hle:=i52.le;obtain ⟨v,h56,e56,y56,c56,s56⟩:=qAv (N:=N) (P:=P) hT hN 64 N (Nat.le_refl _) (by omega) (O::R::X) h52 zt.2 0 i52.pc (.inl (by show 0≤2000;omega));rw [show ((65-64:Nat):Int)=1 from rfl] at e56;rw [e56,aA];have i56:=i52.step c56 y56;have hst:h56.store (O,8) [.slice v.a v.len v.cap v.sz]=some (h56.put O (.row (fuc { dJ pub nm at_ with lv:=lv,ps:=ps,ty:=t,bd:=v }) .own)):=fD i56.oO (by simp only [fuc,fux,fuv,kE,jE,lF,Option.map_some]);simp only [Nat.zero_add];rw [hst,bA];have cp:=i56.oO.put (fuc { dJ pub nm at_ with lv:=lv,ps:=ps,ty:=t,bd:=v });obtain ⟨g1,g2,g3,g4,g5,g6,g7⟩:=i56.old (cp.mono (N:=[P,O]) (by simp));have i58:FI T P X h Q R O { dJ pub nm at_ with lv:=lv,ps:=ps,ty:=t,bd:=v } ⟨zl.1,zp.1,zt.1,(mF T 64 (zt.2,0)).1⟩ (h56.put O (.row (fuc { dJ pub nm at_ with lv:=lv,ps:=ps,ty:=t,bd:=v }) .own)) (mF T 64 (zt.2,0)).2.1 ((mF T 64 (zt.2,0)).2.2:Int):=⟨i56.pc.chg1 cp (by simp),g1,g2,g3,iB i56.oO _,i56.le,g4,g5,g6,(s56.chg cp (fun C hC=>by simp;omega)).weak (fun C hC _=>by omega)⟩;generalize h56.put O (.row (fuc { dJ pub nm at_ with lv:=lv,ps:=ps,ty:=t,bd:=v }) .own)=h58 at *;rw [gAy (r:=fuv { dJ pub nm at_ with lv:=lv,ps:=ps,ty:=t,bd:=v }) i58.oO];refine ⟨fuv { dJ pub nm at_ with lv:=lv,ps:=ps,ty:=t,bd:=v },_,fBh i58.oR (fuv { dJ pub nm at_ with lv:=lv,ps:=ps,ty:=t,bd:=v }) (fun x h=>some (x,h)),?_,?_,?_⟩
 ·exact (i58.pc.chg1 (i58.oR.put _) (by simp)).sub (by simp +contextual)
 ·exact i58.chg.step (i58.oR.put _) (fun A hA hl=>by rw [List.mem_singleton] at hA;omega)
 ·exact (i58.dt.chg (i58.oR.put _) (fun C hC=>by simp;omega)).weak fun C hC _=>by omega
end
end Qp
namespace Qp
abbrev Er3:=Option (Int×Int×Option Int)
def ErrW (h:Heap) (v:AV):Er3→Prop
 | none=>v=AV.nilIface
 | some (c,a,none)=>lA0 h v c a
 | some (c,a,some b)=>∃ A B,v=AV.iface 127 (.ptr (some (A,0)))∧h.own A [.int .i64 c,.int .i64 a,AV.iface 127 (.ptr (some (B,0)))]∧h.own B [.int .i64 c,.int .i64 b,AV.iface 78 (.int .i64 c)]
def inS (at_:Int):Er→Er3
 | none=>none
 | some (c,a)=>some (c,at_,some a)
def oAl:Er→Er3
 | none=>none
 | some (c,a)=>some (c,a,none)
theorem aAr {h:Heap} {A:Nat} {p:Nat×Nat} {v:AV} (hp:Qw.pinned h=true) (o:h.own A [v]):Qz.asF (AV.iface 127 (.ptr (some p))) (AV.iface 214 (.ptr (some (A,0)))) h=some (true,h.put A (.row [.ptr (some p)] .own)):=by
 simp only [Qw.pinned,Qx.pinned,Bool.and_eq_true] at hp;obtain ⟨⟨⟨⟨b1,b2⟩,b3⟩,_⟩,_⟩:=hp;have hr:Qa.pAo h A=some ([v],.own):=by
  have:=o.1
  unfold Qa.pAo;unfold Heap.g at this;rw [this]
 simp [Qz.asF,Qa.asN,b1,b2,b3,hr,over]
section
variable {N:Nat} {T:List Tok} {P:Nat} {X:List Nat} {h:Heap} {σ:St} {st:Int}
theorem pAl {B:Nat} {c:Int} {w:List AV} (hp:Qw.pinned h=true) (h4:4≤h.next) (o:h.own B (.int .i64 c::w)):∃ h',f159 N (AV.iface 127 (.ptr (some (B,0)))) h=some (c,h')∧Chg [] h h':=by
 unfold f159 f191;simp only [iO,fA,jB,cond_false,jO,cond_true];have o1:=wA h [AV.ptr none];have c1:=vA h (.row [AV.ptr none] .own);have p1:=jN c1 (by simp) h4 hp;have e2:f192 N (AV.iface 127 (.ptr (some (B,0)))) (AV.iface 214 (.ptr (some (h.next,0)))) (h.push (.row [AV.ptr none] .own))=_:=aAr p1 o1;rw [e2,aA];have o2:=iB o1 [AV.ptr (some (B,0))];have c2:Chg [] h ((h.push (.row [AV.ptr none] .own)).put h.next (.row [AV.ptr (some (B,0))] .own)):=c1.put (.inr (Nat.le_refl _)) _;have r2:((h.push (.row [AV.ptr none] .own)).put h.next (.row [AV.ptr (some (B,0))] .own)).cell (h.next,0)=some (.ptr (some (B,0))):=o2.cell 0;have r3:((h.push (.row [AV.ptr none] .own)).put h.next (.row [AV.ptr (some (B,0))] .own)).cell (B,0)=some (.int .i64 c):=(o.chg c2 (by simp)).cell 0;simp only [cond_true,r2,fA,wB,aA,Option.isNone_some,Bool.not_false,bA,Nat.zero_add,r3,kB];exact ⟨_,rfl,c2⟩
theorem iB2 (hp:Qw.pinned h=true) (h4:4≤h.next) {e:Er} {v:AV} (hv:ErrV h P X v e) (at_:Int):∃ v' h',f104 N v at_ h=some (v',h')∧Chg [] h h'∧ErrW h' v' (inS at_ e)∧AV.single v'=true:=by
 cases e with
 | none=>
  have hv:v=AV.nilIface:=hv;subst hv;exact ⟨AV.nilIface,h,jAv N at_ h,Chg.refl _ _,rfl,rfl⟩
 | some q=>
  obtain ⟨c,a⟩:=q;obtain ⟨B,rfl,_,o⟩:=hv;obtain ⟨h3,e3,c3⟩:=pAl (N:=N) hp h4 o;rw [aAl,e3,aA];have c4:=vA h3 (.row [(.int .i64 c),(.int .i64 at_),(AV.iface 127 (.ptr (some (B,0))))] .own);exact ⟨_,_,rfl,c3.trans c4,⟨h3.next,B,rfl,wA h3 _,(o.chg c3 (by simp)).chg c4 (by simp)⟩,rfl⟩
theorem ErrW.chg {h h':Heap} {v:AV} {e:Er3} {M:List Nat} (x:ErrW h v e) (c:Chg M h h') (hM:∀ A∈M,∃ cs w,h.own A (cs::w)∧∀ n,cs≠.int .i64 n):ErrW h' v e:=by
 have key:∀ {A:Nat} {n:Int} {w:List AV},h.own A (.int .i64 n::w)→h'.own A (.int .i64 n::w):=fun {A n w} o=>o.chg c fun hm=>by
  obtain ⟨cs,w',o',hn⟩:=hM A hm
  have:=o.1.symm.trans o'.1
  simp only [Option.some.injEq,Blk.row.injEq,List.cons.injEq,and_true] at this;exact hn n this.1.symm
 match e with
 | none=>exact x
 | some (c,a,none)=>
  obtain ⟨F,f1,f2⟩:=x;exact ⟨F,f1,key f2⟩
 | some (c,a,some b)=>
  obtain ⟨A,B,f1,f2,f3⟩:=x;exact ⟨A,B,f1,key f2,key f3⟩
theorem PC.chgC {h':Heap} {C:Nat} {a b:SL} (x:PC T P X h σ st) (o:h.own C [SL.av a,SL.av b]) (hC:C<P∧4≤C) (c:Chg [C] h h'):PC T P X h' σ st:=by
 obtain ⟨⟨⟨s,v,h1,h2,h3,h4⟩,h5,h6⟩,hp,p4⟩:=x;have hs:∀ A,s.blk=some A→A≠C:=by
  intro A hA e;subst e;obtain ⟨vs,hse,hde⟩:=h2.els
  cases hq:s.a with
  | none=>simp [SL.blk,hq] at hA
  | some q=>
   obtain ⟨A',off⟩:=q;simp [SL.blk,hq] at hA;subst hA;obtain ⟨_,cs,g1,g2⟩:=hse.2.2 A' off hq;rw [o.1] at g1;have g1':cs=[SL.av a,SL.av b]:=by
    have:(some [SL.av a,SL.av b]:Option (List AV))=some cs:=g1
    simpa using this.symm
   subst g1'
   cases T with
   | nil=>simp at h5
   | cons t r=>
    rw [List.map_cons] at hde;simp only [De] at hde;obtain ⟨x1,x2,hx,hl,hd,_⟩:=hde;have hd':=dAe hd;subst hd';rw [hx] at g2;have hm:AV.int .i64 t.1∈[SL.av a,SL.av b]:=by
     have:AV.int .i64 t.1∈([SL.av a,SL.av b].drop off).take (tkc t.1 t.2.1 (t.2.2:Int)++x2).length:=by
      rw [g2];simp [tkc]
     exact List.mem_of_mem_drop (List.mem_of_mem_take this)
    simp [SL.av] at hm
 have h2':Sl h (fun A=>A<P∧A≠C) s (T.map tAa):=by
  refine ⟨h2.len,h2.cap,fun A hA=>⟨h2.blk A hA,hs A hA⟩,?_⟩;obtain ⟨vs,hse,hde⟩:=h2.els;refine ⟨vs,hse,?_⟩;have gen:∀ (l:List Tok) (vs:List AV),De h (fun C=>C<P) s.sz (l.map tAa) vs→De h (fun A=>A<P∧A≠C) s.sz (l.map tAa) vs:=by
   intro l
   induction l with
   | nil=>intro vs hd;exact hd
   | cons t r ih=>
    intro vs hd;rw [List.map_cons] at hd ⊢;simp only [De] at hd ⊢;obtain ⟨x1,x2,e1,e2,e3,e4⟩:=hd;refine ⟨x1,x2,e1,e2,?_,ih _ e4⟩
    have:=dAe e3
    subst this;exact mAv (kC (a:=[_]) (jAl h _ _) (kC (a:=[_]) (pJ h _ _) (kC (a:=[_]) (b:=[]) (jAl h _ _) (fW h _))))
  exact gen T vs hde
 have h4':ErrV h' P X v σ.2:=by
  cases he:σ.2 with
  | none=>rw [he] at h4;exact h4
  | some q=>
   rw [he] at h4;obtain ⟨A,g1,g2,g3⟩:=h4;refine ⟨A,g1,g2,g3.chg c fun hm=>?_⟩;rw [List.mem_singleton] at hm;subst hm
   have:=g3.1.symm.trans o.1
   simp [SL.av] at this
 exact ⟨⟨⟨s,v,h1.chg c (by simp;omega),(h2'.chg c (fun A hA=>by simp;exact hA.2)).weak fun A hA _=>hA.1,h3,h4'⟩,h5,fun A hA=>⟨(h6 A hA).1,Nat.lt_of_lt_of_le (h6 A hA).2 c.next⟩⟩,jN c (by simp;omega) (by have:=o.2;omega) hp,p4⟩
end
end Qp
namespace Qp
structure ItS where
 d:Option (Bool×D)
 i:Nat
 e:Er3
 n:Nat
def cI (T:List Tok) (σ:St):ItS:=
 let p:=qB T [112,117,98] σ
 let at_:Int:=((tk T p.2.1).2.2:Int)
 let b:=qB T [115,116,114,117,99,116] p.2
 if b.1=true then ⟨some (true,(uF T p.1 at_ b.2).1),(uF T p.1 at_ b.2).2.1,inS at_ (uF T p.1 at_ b.2).2.2,0⟩ else
 let f:=qB T [102,110] b.2
 if f.1=true then ⟨some (false,(gJ T p.1 at_ f.2).1),(gJ T p.1 at_ f.2).2.1.1,inS at_ (gJ T p.1 at_ f.2).2.1.2,(gJ T p.1 at_ f.2).2.2⟩
 else ⟨none,(cF T 21 f.2).1,oAl (cF T 21 f.2).2,0⟩
theorem vBe:AppN E 22 72 5 1000:=AppN.of (by kernel_rfl)
theorem wBe:AppN E 23 44 10 1000:=AppN.of (by kernel_rfl)
def qAl (h0 h:Heap) (C:Nat) (xs ys:List D):Prop:=∃ v w,h.own C [SL.av v,SL.av w]∧OwV (fun A=>h0.next≤A∧w.blk≠some A) h v 5 xs∧OwV (fun A=>h0.next≤A∧v.blk≠some A) h w 10 ys
def oA6 (d:Option (Bool×D)) (xs:List D):List D:=match d with | some (true,x)=>xs++[x] | _=>xs
def pA6 (d:Option (Bool×D)) (ys:List D):List D:=match d with | some (false,y)=>ys++[y] | _=>ys
def PE (T:List Tok) (P:Nat) (h:Heap) (i:Nat) (e:Er3):Prop:=(∃ v,h.cell (P,3)=some v∧ErrW h v e)∧(e=none→∃ st,PC T P [] h (i,none) st)
section
variable {N:Nat} {T:List Tok} {P:Nat} {X:List Nat} {h:Heap} {σ:St} {st:Int}
theorem jAb (x:PC T P X h σ st) (at_:Int):∃ h',(uA (some (P,0)) fun q16=>
   (iA (.val zZ2) (h.cell (q16.1,q16.2+3)) fun (x17:AV)=>
   (kA (f104 N x17 at_ h) fun (x18:AV) h19=>
   (uA (some (P,0)) fun q20=>
   (uE (AV.single x18)
   (uA (h19.store (q20.1,q20.2+3) [x18]) fun h21=>
   some ((()),h21)))))))=some ((),h')∧Chg [P] h h'∧PE T P h' σ.1 (inS at_ σ.2):=by
 obtain ⟨v,k3,hv⟩:=x.pa.readE;have hP:=x.P_lt;obtain ⟨v',h19,e19,c19,w19,s19⟩:=iB2 (N:=N) x.pin (by have:=x.p4;omega) hv at_;simp only [bA,Nat.zero_add,k3,fA,wD];rw [e19,aA,s19,yC];have x19:=x.chg c19;obtain ⟨⟨⟨s,v0,h1,h2,h3,h4⟩,h5,h6⟩,hp,p4⟩:=x19;have hst:h19.store (P,3) [v']=some (h19.put P (.row [SL.av s,.int .i64 (σ.1:Int),.int .i64 st,v'] .own)):=h1.store1 (j:=3) (by show 3<4;omega) _;rw [hst,bA];have cp:=h1.put [SL.av s,.int .i64 (σ.1:Int),.int .i64 st,v'];have hl:=h1.2;refine ⟨_,rfl,(c19.mono (by simp)).trans cp,⟨v',(iB h1 _).cell 3,w19.chg cp fun A hA=>by
  rw [List.mem_singleton] at hA;subst hA;exact ⟨_,_,h1,fun n=>by simp [SL.av]⟩⟩,fun he=>?_⟩
 obtain ⟨i,e⟩:=σ
 cases e with
 | some q=>obtain ⟨c,a⟩:=q;cases he
 | none=>
  have hv':v'=AV.nilIface:=w19;subst hv';exact ⟨st,⟨⟨⟨s,AV.nilIface,iB h1 _,h2.chg cp (fun A hA=>by simp;omega),h3,rfl⟩,h5,by simp⟩,jN cp (by simp;omega) (by omega) hp,p4⟩⟩
theorem jB9 (hT:Toks T) (hN:3000≤N) {h0:Heap} {C:Nat} {xs ys:List D} {i:Nat} (x:PC T P [] h (i,none) st) (hC:C<P∧4≤C) (hP0:P<h0.next) (ch:Chg [P,C] h0 h) (cr:qAl h0 h C xs ys) (hx:xs.length≤1000) (hy:ys.length≤1000) :
  ∃ h',f63 N (some (P,0)) (some (C,0)) h=some ((),h')∧Chg [P,C] h0 h'∧PE T P h' (cI T (i,none)).i (cI T (i,none)).e∧qAl h0 h' C (oA6 (cI T (i,none)).d xs) (pA6 (cI T (i,none)).d ys):=by
 unfold f63;obtain ⟨h2,e2,c2,x2⟩:=yH (N:=N) hT x (w:=[112,117,98]) (by decide);rw [e2,aA];simp only [cI];obtain ⟨h4,e4,c4⟩:=iM (N:=N) x2.pa;rw [e4,aA];have x4:=x2.chg c4;obtain ⟨h6,e6,c6,x6⟩:=yH (N:=N) hT x4 (w:=[115,116,114,117,99,116]) (by decide);rw [e6,aA];have c06:Chg [P] h h6:=(c2.trans (c4.mono (by simp))).trans c6;have ch6:=ch.trans (c06.mono (N:=[P,C]) (by simp));have crStep:∀ {h1 h2:Heap},Chg [P] h1 h2→qAl h0 h1 C xs ys→qAl h0 h2 C xs ys:=by
  rintro h1 h2 c ⟨v,w,o,w1,w2⟩;exact ⟨v,w,o.chg c (by simp;omega),w1.chg c (by intro A hA _;simp;omega),w2.chg c (by intro A hA _;simp;omega)⟩
 have cr6:=crStep c06 cr;have hn06:=ch6.next;generalize (qB T [112,117,98] (i,none)).1=pub at *;generalize (qB T [112,117,98] (i,none)).2=σ2 at *;simp only [tAh];generalize ((tk T σ2.1).2.2:Int)=at_ at *
 cases hb:(qB T [115,116,114,117,99,116] σ2).1 with
 | true=>
  obtain ⟨v,w,o6,w1,w2⟩:=cr6;have hs:=(qF hb).1;rw [hs] at x6;rw [hs];simp only [cond_true,if_true,bA,Nat.zero_add];have r6:h6.cell (C,0)=some (.slice v.a v.len v.cap v.sz):=o6.cell 0;simp only [r6,fA,qA];have hv:∀ A∈v.blk.toList,h0.next≤A∧A<h6.next∧w.blk≠some A:=fun A hA=>by
   have:=w1.ge A (by simpa using hA);exact ⟨this.1.1,this.2,this.1.2⟩
  have y6:PC T P v.blk.toList h6 (σ2.1+1,none) st:=x6.free fun A hA=>by have:=hv A hA;omega
  obtain ⟨r,h10,e10,x10,c10,d10⟩:=rB1 (N:=N) hT (by omega) y6 pub at_;rw [e10,aA];have o10:=o6.chg c10 (by simp;omega);have w1_10:=w1.chg c10 (by intro A hA _;simp;omega);have w2_10:=w2.chg c10 (by intro A hA _;simp;omega);have hn10:=c10.next;have hw:∀ A∈w.blk.toList,h0.next≤A∧A<h6.next:=fun A hA=>by have:=w2.ge A (by simpa using hA);exact ⟨this.1.1,this.2⟩
  obtain ⟨v',h13,eA,w1_13,c13,hb13⟩:=lO (cs:=stc r) vBe (by decide) w1_10 (d10.weak fun A hA _=>⟨⟨by omega,fun e=>by have:=hw A (by simpa using e);omega⟩,fun e=>by have:=hv A (by simpa using e);omega⟩) rfl (fun A hA=>⟨by omega,fun e=>by have:=hw A (by simpa using e);omega⟩) (by omega);have eA':pC E 22 22 (.slice v.a v.len v.cap v.sz) (.slice (some (h10.next,0)) 1 1 5) (h10.push (.row [(.bool r.1),(.str r.2.1),(.slice r.2.2.1.a r.2.2.1.len r.2.2.1.cap r.2.2.1.sz),(.slice r.2.2.2.1.a r.2.2.2.1.len r.2.2.2.1.cap r.2.2.2.1.sz),(.int .i64 r.2.2.2.2.1)] .own))=some (.slice v'.a v'.len v'.cap v'.sz,h13):=eA;rw [eA',aG,qA];have o13:=o10.chg c13 (fun hm=>by have:=hv C hm;omega);have o11:=o10.chg (vA h10 (.row (stc r) .own)) (by simp);have k11:(h10.push (.row [(.bool r.1),(.str r.2.1),(.slice r.2.2.1.a r.2.2.1.len r.2.2.1.cap r.2.2.1.sz),(.slice r.2.2.2.1.a r.2.2.2.1.len r.2.2.2.1.cap r.2.2.2.1.sz),(.int .i64 r.2.2.2.2.1)] .own)).cell (C,0)=some (.slice v.a v.len v.cap v.sz):=o11.cell 0;have k10:h10.cell (C,0)=some (.slice v.a v.len v.cap v.sz):=o10.cell 0;have hst:h13.store (C,0) [.slice v'.a v'.len v'.cap v'.sz]=some (h13.put C (.row [SL.av v',SL.av w] .own)):=o13.store1 (j:=0) (by show 0<2;omega) _;rw [hst,bA];simp only [k11,k10,r6,rD,cond_true,yC];have cp:=o13.put [SL.av v',SL.av w];have x13:=(x10.chgM c13 (fun A hA=>hA)).sub (X':=[]) (by simp);have x15:=x13.chgC o13 hC cp;have ch13:Chg [P,C] h0 h13:=(ch6.trans (c10.mono (by simp))).step c13 (fun A hA hl=>by have:=hv A hA;omega);have ch15:=ch13.trans (cp.mono (N:=[P,C]) (by simp));have w2_13:OwV (fun A=>h0.next≤A∧v'.blk≠some A) h13 w 10 ys:=by
   have a1:OwV (fun A=>(h0.next≤A∧v.blk≠some A)∧A<h10.next) h10 w 10 ys:=w2_10.weak fun A hA hl=>⟨hA,hl⟩;have a2:=a1.chg c13 (by intro A hA _ hm;exact hA.1.2 (by simpa using hm));exact a2.weak fun A hA _=>⟨hA.1.1,fun e=>by rcases hb13 A e with e | e;exact hA.1.2 e;omega⟩
  have hn13:=ch13.next;have cr15:qAl h0 (h13.put C (.row [SL.av v',SL.av w] .own)) C (xs++[(uF T pub at_ (σ2.1+1,none)).1]) ys:=⟨v',w,iB o13 _,w1_13.chg cp (by intro A hA _;simp;omega),w2_13.chg cp (by intro A hA _;simp;omega)⟩;obtain ⟨h21,e21,c21,pe⟩:=jAb (N:=N) x15 at_;simp only [bA,Nat.zero_add] at e21;refine ⟨h21,e21,ch15.trans (c21.mono (by simp)),pe,?_⟩;obtain ⟨v1,w1',o1,z1,z2⟩:=cr15;exact ⟨v1,w1',o1.chg c21 (by simp;omega),z1.chg c21 (by intro A hA _;simp;omega),z2.chg c21 (by intro A hA _;simp;omega)⟩
 | false=>
 rw [tD hb] at x6 ⊢;simp only [cond_false,Bool.false_eq_true,if_false];obtain ⟨h23,e23,c23,x23⟩:=yH (N:=N) hT x6 (w:=[102,110]) (by decide);rw [e23,aA];have cr23:=crStep c23 cr6;have ch23:=ch6.trans (c23.mono (N:=[P,C]) (by simp));have hn23:=ch23.next
 cases hb2:(qB T [102,110] σ2).1 with
 | true=>
  obtain ⟨v,w,o6,w1,w2⟩:=cr23;have hs:=(qF hb2).1;rw [hs] at x23;rw [hs];simp only [cond_true,if_true,bA,Nat.zero_add];have r6:h23.cell (C,1)=some (.slice w.a w.len w.cap w.sz):=o6.cell 1;simp only [r6,fA,qA];have hv:∀ A∈v.blk.toList,h0.next≤A∧A<h23.next:=fun A hA=>by have:=w1.ge A (by simpa using hA);exact ⟨this.1.1,this.2⟩
  have hw:∀ A∈w.blk.toList,h0.next≤A∧A<h23.next∧v.blk≠some A:=fun A hA=>by
   have:=w2.ge A (by simpa using hA);exact ⟨this.1.1,this.2,this.1.2⟩
  have y6:PC T P w.blk.toList h23 (σ2.1+1,none) st:=x23.free fun A hA=>by have:=hw A hA;omega
  obtain ⟨r,h10,e10,x10,c10,d10⟩:=gB2 (N:=N) hT hN y6 pub at_;rw [e10,aA];have o10:=o6.chg c10 (by simp;omega);have w1_10:=w1.chg c10 (by intro A hA _;simp;omega);have w2_10:=w2.chg c10 (by intro A hA _;simp;omega);have hn10:=c10.next;obtain ⟨w',h13,eA,w2_13,c13,hb13⟩:=lO (cs:=fux r) wBe (by decide) w2_10 (d10.weak fun A hA _=>⟨⟨by omega,fun e=>by have:=hv A (by simpa using e);omega⟩,fun e=>by have:=hw A (by simpa using e);omega⟩) rfl (fun A hA=>⟨by omega,fun e=>by have:=hv A (by simpa using e);omega⟩) (by omega);have eA':pC E 23 23 (.slice w.a w.len w.cap w.sz) (.slice (some (h10.next,0)) 1 1 10) (h10.push (.row [(.bool r.1),(.str r.2.1),(.slice r.2.2.1.a r.2.2.1.len r.2.2.1.cap r.2.2.1.sz),(.slice r.2.2.2.1.a r.2.2.2.1.len r.2.2.2.1.cap r.2.2.2.1.sz),(.int .i64 r.2.2.2.2.1),(.str r.2.2.2.2.2.1),(.slice r.2.2.2.2.2.2.1.a r.2.2.2.2.2.2.1.len r.2.2.2.2.2.2.1.cap r.2.2.2.2.2.2.1.sz),(.slice r.2.2.2.2.2.2.2.1.a r.2.2.2.2.2.2.2.1.len r.2.2.2.2.2.2.2.1.cap r.2.2.2.2.2.2.2.1.sz),(.slice r.2.2.2.2.2.2.2.2.1.a r.2.2.2.2.2.2.2.2.1.len r.2.2.2.2.2.2.2.2.1.cap r.2.2.2.2.2.2.2.2.1.sz),(.int .i64 r.2.2.2.2.2.2.2.2.2.1)] .own))=some (.slice w'.a w'.len w'.cap w'.sz,h13):=eA;rw [eA',aG,qA];have o13:=o10.chg c13 (fun hm=>by have:=hw C hm;omega);have o11:=o10.chg (vA h10 (.row (fux r) .own)) (by simp);have k11:(h10.push (.row [(.bool r.1),(.str r.2.1),(.slice r.2.2.1.a r.2.2.1.len r.2.2.1.cap r.2.2.1.sz),(.slice r.2.2.2.1.a r.2.2.2.1.len r.2.2.2.1.cap r.2.2.2.1.sz),(.int .i64 r.2.2.2.2.1),(.str r.2.2.2.2.2.1),(.slice r.2.2.2.2.2.2.1.a r.2.2.2.2.2.2.1.len r.2.2.2.2.2.2.1.cap r.2.2.2.2.2.2.1.sz),(.slice r.2.2.2.2.2.2.2.1.a r.2.2.2.2.2.2.2.1.len r.2.2.2.2.2.2.2.1.cap r.2.2.2.2.2.2.2.1.sz),(.slice r.2.2.2.2.2.2.2.2.1.a r.2.2.2.2.2.2.2.2.1.len r.2.2.2.2.2.2.2.2.1.cap r.2.2.2.2.2.2.2.2.1.sz),(.int .i64 r.2.2.2.2.2.2.2.2.2.1)] .own)).cell (C,1)=some (.slice w.a w.len w.cap w.sz):=o11.cell 1;have k10:h10.cell (C,1)=some (.slice w.a w.len w.cap w.sz):=o10.cell 1;have hst:h13.store (C,1) [.slice w'.a w'.len w'.cap w'.sz]=some (h13.put C (.row [SL.av v,SL.av w'] .own)):=o13.store1 (j:=1) (by show 1<2;omega) _;rw [hst,bA];simp only [k11,k10,r6,rD,cond_true,yC];have cp:=o13.put [SL.av v,SL.av w'];have x13:=(x10.chgM c13 (fun A hA=>hA)).sub (X':=[]) (by simp);have x15:=x13.chgC o13 hC cp;have ch13:Chg [P,C] h0 h13:=(ch23.trans (c10.mono (by simp))).step c13 (fun A hA hl=>by have:=hw A hA;omega);have ch15:=ch13.trans (cp.mono (N:=[P,C]) (by simp));have w1_13:OwV (fun A=>h0.next≤A∧w'.blk≠some A) h13 v 5 xs:=by
   have a1:OwV (fun A=>(h0.next≤A∧w.blk≠some A)∧A<h10.next) h10 v 5 xs:=w1_10.weak fun A hA hl=>⟨hA,hl⟩;have a2:=a1.chg c13 (by intro A hA _ hm;exact hA.1.2 (by simpa using hm));exact a2.weak fun A hA _=>⟨hA.1.1,fun e=>by rcases hb13 A e with e | e;exact hA.1.2 e;omega⟩
  have hn13:=ch13.next;have cr15:qAl h0 (h13.put C (.row [SL.av v,SL.av w'] .own)) C xs (ys++[(gJ T pub at_ (σ2.1+1,none)).1]):=⟨v,w',iB o13 _,w1_13.chg cp (by intro A hA _;simp;omega),w2_13.chg cp (by intro A hA _;simp;omega)⟩;obtain ⟨h21,e21,c21,pe⟩:=jAb (N:=N) x15 at_;simp only [bA,Nat.zero_add] at e21;refine ⟨h21,e21,ch15.trans (c21.mono (by simp)),pe,?_⟩;obtain ⟨v1,w1',o1,z1,z2⟩:=cr15;exact ⟨v1,w1',o1.chg c21 (by simp;omega),z1.chg c21 (by intro A hA _;simp;omega),z2.chg c21 (by intro A hA _;simp;omega)⟩
 | false=>
  rw [tD hb2] at x23 ⊢;simp only [cond_false,Bool.false_eq_true,if_false];obtain ⟨h40,e40,c40,x40⟩:=eAi (N:=N) x23 (c:=21) (by decide);rw [e40,aA];obtain ⟨v,k3,hv⟩:=x40.pa.readE;refine ⟨h40,rfl,ch23.trans (c40.mono (by simp)),⟨⟨v,k3,?_⟩,fun he=>?_⟩,crStep c40 cr23⟩
  ·cases hh:(cF T 21 σ2).2 with
   | none=>rw [hh] at hv;exact hv
   | some q=>
    rw [hh] at hv;obtain ⟨A,g1,_,g3⟩:=hv;exact ⟨A,g1,g3⟩
  ·have:=nN T 21 σ2
   cases hh:(cF T 21 σ2).2 with
   | none=>rw [hh] at this;cases this
   | some q=>rw [hh] at he;cases he
end
end Qp
namespace Qp
def aE (T:List Tok):Nat→Nat→(List D×List D)×Er3
 | 0,i=>if (tk T i).1=0 then (([],[]),none) else (([],[]),oAl (cF T 5 (i,none)).2)
 | f+1,i=>if (tk T i).1=0 then (([],[]),none) else
  let z:=cI T (i,none)
  match z.e with
  | some q=>(([],[]),some q)
  | none=>let r:=aE T f z.i;((oA6 z.d []++r.1.1,pA6 z.d []++r.1.2),r.2)
def iW (T:List Tok):(List D×List D)×Er3:=
 let r:=aE T 256 0
 match r.2 with
 | some q=>(([],[]),some q)
 | none=>(r.1,none)
def oF (N:Nat) (s:Bs):(List D×List D)×Er3:=match qAk N s with
 | .inr a=>(([],[]),some (20,(a:Int),none))
 | .inl T=>iW T
theorem rAv (d:Option (Bool×D)) (xs:List D):oA6 d xs=xs++oA6 d []:=by
 unfold oA6;split <;> simp
theorem tAv (d:Option (Bool×D)) (ys:List D):pA6 d ys=ys++pA6 d []:=by
 unfold pA6;split <;> simp
theorem kAi (d:Option (Bool×D)) (xs:List D):(oA6 d xs).length≤xs.length+1:=by
 unfold oA6;split <;> simp
theorem lAi (d:Option (Bool×D)) (ys:List D):(pA6 d ys).length≤ys.length+1:=by
 unfold pA6;split <;> simp
section
variable {N:Nat} {T:List Tok} {P:Nat} {X:List Nat} {h:Heap} {σ:St} {st:Int}
theorem ErrW.eq {h:Heap} {v:AV} {e:Er3} (x:ErrW h v e) (k:Nat):wJ E .eql 29 (.tmp k) (.const .nilIface) v AV.nilIface=some (.bool e.isNone):=by
 match e with
 | none=>rw [show v=AV.nilIface from x];exact eq_nil k
 | some (c,a,none)=>obtain ⟨A,h1,_⟩:=x;rw [h1];exact iO k _
 | some (c,a,some b)=>obtain ⟨A,B,h1,_⟩:=x;rw [h1];exact iO k _
theorem ErrW.ne {h:Heap} {v:AV} {e:Er3} (x:ErrW h v e) (k:Nat):wJ E .neq 29 (.tmp k) (.const .nilIface) v AV.nilIface=some (.bool e.isSome):=by
 match e with
 | none=>rw [show v=AV.nilIface from x];exact ne_nil k
 | some (c,a,none)=>obtain ⟨A,h1,_⟩:=x;rw [h1];exact jO k _
 | some (c,a,some b)=>obtain ⟨A,B,h1,_⟩:=x;rw [h1];exact jO k _
theorem PE.of (x:PC T P X h σ st) (hx:σ.2.isSome=true):PE T P h σ.1 (oAl σ.2):=by
 obtain ⟨v,k3,hv⟩:=x.pa.readE;refine ⟨⟨v,k3,?_⟩,fun he=>?_⟩
 ·cases hh:σ.2 with
  | none=>rw [hh] at hv;exact hv
  | some q=>
   rw [hh] at hv;obtain ⟨A,g1,_,g3⟩:=hv;exact ⟨A,g1,g3⟩
 ·cases hh:σ.2 with
  | none=>rw [hh] at hx;cases hx
  | some q=>rw [hh] at he;cases he
theorem rAl (hT:Toks T) (hN:3000≤N) {h0:Heap} {C:Nat} {R:zT2} (hC:C<P∧4≤C) (hP0:P<h0.next):∀ (f M:Nat) (h:Heap) (i:Nat) (st:Int) (xs ys:List D),f+1<M→f≤256→xs.length+f≤256→ys.length+f≤256→PC T P [] h (i,none) st→Chg [P,C] h0 h→qAl h0 h C xs ys→
  ∃ h' xs' ys',dAi N M R (some (C,0)) (some (P,0)) ((256-f:Nat):Int) h=some (.exit 0,(R,some (C,0),some (P,0),()),h')∧Chg [P,C] h0 h'∧qAl h0 h' C xs' ys'∧(∃ v,h'.cell (P,3)=some v∧ErrW h' v (aE T f i).2)∧((aE T f i).2=none→xs'=xs++(aE T f i).1.1∧ys'=ys++(aE T f i).1.2):=by
 intro f
 induction f with
 | zero=>
  intro M h i st xs ys hM hf hx hy x ch cr;obtain ⟨M,rfl⟩:∃ m,M=m+1:=⟨M-1,by omega⟩;rw [bR];unfold fT;obtain ⟨v,k3,hv⟩:=x.pa.readE;have hv:v=AV.nilIface:=hv;subst hv;simp only [bA,Nat.zero_add,k3,fA,wD,eq_nil,jB,cond_true];obtain ⟨h13,e13,c13⟩:=iM (N:=N) x.pa;rw [e13,aA];have x13:=x.chg c13;have ch13:=ch.trans (c13.mono (N:=[P,C]) (by simp));have crS:∀ {h1 h2:Heap},Chg [P] h1 h2→qAl h0 h1 C xs ys→qAl h0 h2 C xs ys:=by
   rintro h1 h2 c ⟨v,w,o,w1,w2⟩;exact ⟨v,w,o.chg c (by simp;omega),w1.chg c (by intro A hA _;simp;omega),w2.chg c (by intro A hA _;simp;omega)⟩
  have cr13:=crS (c13.mono (by simp)) cr;simp only [tAh,eqI,aE]
  by_cases q:(tk T i).1=0
  ·simp only [q,decide_true,Bool.not_true,cond_false,if_true]
   obtain ⟨v,k3,hv⟩:=x13.pa.readE;exact ⟨h13,xs,ys,rfl,ch13,cr13,⟨v,k3,hv⟩,fun _=>⟨by simp,by simp⟩⟩
  ·simp only [q,decide_false,Bool.not_false,cond_true,if_false,show decide (((256-0:Nat):Int)=256)=true from rfl]
   obtain ⟨h17,e17,c17,x17⟩:=eAi (N:=N) x13 (c:=5) (by decide);rw [e17,aA];have pe:=PE.of x17 (nN T 5 (i,none));exact ⟨h17,xs,ys,rfl,ch13.trans (c17.mono (by simp)),crS c17 cr13,pe.1,fun h=>by cases h⟩
 | succ f ih=>
  intro M h i st xs ys hM hf hx hy x ch cr;obtain ⟨M,rfl⟩:∃ m,M=m+1:=⟨M-1,by omega⟩;rw [bR];unfold fT;obtain ⟨v,k3,hv⟩:=x.pa.readE;have hv:v=AV.nilIface:=hv;subst hv;simp only [bA,Nat.zero_add,k3,fA,wD,eq_nil,jB,cond_true];obtain ⟨h13,e13,c13⟩:=iM (N:=N) x.pa;rw [e13,aA];have x13:=x.chg c13;have ch13:=ch.trans (c13.mono (N:=[P,C]) (by simp));have crS:∀ {h1 h2:Heap},Chg [P] h1 h2→qAl h0 h1 C xs ys→qAl h0 h2 C xs ys:=by
   rintro h1 h2 c ⟨v,w,o,w1,w2⟩;exact ⟨v,w,o.chg c (by simp;omega),w1.chg c (by intro A hA _;simp;omega),w2.chg c (by intro A hA _;simp;omega)⟩
  have cr13:=crS (c13.mono (by simp)) cr;simp only [tAh,eqI,aE]
  by_cases q:(tk T i).1=0
  ·simp only [q,decide_true,Bool.not_true,cond_false,if_true]
   obtain ⟨v,k3,hv⟩:=x13.pa.readE;exact ⟨h13,xs,ys,rfl,ch13,cr13,⟨v,k3,hv⟩,fun _=>⟨by simp,by simp⟩⟩
  ·have hne:decide (((256-(f+1):Nat):Int)=256)=false:=decide_eq_false (by omega)
   simp only [q,decide_false,Bool.not_false,cond_true,if_false,hne,cond_false];obtain ⟨h19,e19,ch19,pe,cr19⟩:=jB9 (N:=N) hT hN x13 hC hP0 ch13 cr13 (by omega) (by omega);rw [e19,aA];rw [rB (by omega),show 256-(f+1)+1=256-f by omega];generalize cI T (i,none)=z at *
   cases he:z.e with
   | some q=>
    rw [he] at pe;obtain ⟨⟨v,k3,hv⟩,_⟩:=pe
    -- the loop ends at once
    obtain ⟨M,rfl⟩:∃ m,M=m+1:=⟨M-1,by omega⟩;rw [bR];unfold fT;simp only [bA,Nat.zero_add,k3,fA,wD,hv.eq 24,jB,Option.isNone_some,cond_false];exact ⟨h19,_,_,rfl,ch19,cr19,⟨v,k3,hv⟩,fun h=>by cases h⟩
   | none=>
    obtain ⟨st',x19⟩:=pe.2 he;have l1:=kAi z.d xs;have l2:=lAi z.d ys;obtain ⟨h',xs',ys',e',ch',cr',er',hres⟩:=ih M h19 z.i st' (oA6 z.d xs) (pA6 z.d ys) (by omega) (by omega) (by omega) (by omega) x19 ch19 cr19;refine ⟨h',xs',ys',e',ch',cr',er',fun h=>?_⟩;obtain ⟨h1,h2⟩:=hres h;rw [rAv] at h1;rw [tAv] at h2;exact ⟨by rw [h1,List.append_assoc],by rw [h2,List.append_assoc]⟩
abbrev CrV:=SL×SL×Unit
theorem gBh {β:Type} (r:CrV) (K:CrV→Option β):iA (.val zK) (some (.agg [SL.av r.1,SL.av r.2.1])) K=K r:=by
 obtain ⟨x1,x2,_⟩:=r;simp [SL.av]
theorem gA4 {H:Heap} {A:Nat} {v w:SL} (o:H.own A [SL.av v,SL.av w]) {β:Type} (K:CrV→Option β):iA (.val zK) (H.cells (A,0) 2) K=K (v,w,()):=by
 have:H.cells (A,0) 2=some (.agg [SL.av v,SL.av w]):=o.cells (j:=0) (m:=2) (Nat.le_refl _)
 rw [this,gBh (v,w,())]
theorem bAr {s:Bs} (hs:s.length≤1000000) (hN:s.length<N) (hN2:3000≤N) (hp:Qw.pinned h=true) (h4:4≤h.next) :
  ∃ v w e h',f27 N s h=some (((v,w,()),e,()),h')∧Chg [] h h'∧Sl h' (fun A=>h.next≤A) v (oF N s).1.1∧Sl h' (fun A=>h.next≤A) w (oF N s).1.2∧ErrW h' e (oF N s).2:=by
 unfold f27 oF;have o1:=wA h [SL.av sl0,SL.av sl0];have c1:=vA h (.row [SL.av sl0,SL.av sl0] .own);have e1:h.push (.row [(.slice none 0 0 0),(.slice none 0 0 0)] .own)=h.push (.row [SL.av sl0,SL.av sl0] .own):=rfl;have n1:(h.push (.row [SL.av sl0,SL.av sl0] .own)).next=h.next+1:=rfl;rw [e1];generalize h.push (.row [SL.av sl0,SL.av sl0] .own)=h1 at *;dsimp only;obtain ⟨r2,h3,e3,c3,p3⟩:=oAx (by omega) hN (by omega) h1;rw [e3,aA];have o3:=o1.chg c3 (by simp);have c03:=c1.trans c3;have hn3:=c3.next
 cases hl:qAk N s with
 | inr a=>
  rw [hl] at p3;obtain ⟨F,f1,f2⟩:=p3;rw [f1,jO];simp only [fA,jB,cond_true];have hne:=pAp o3 f2 (by show (2:Nat)≠3;decide);have cp:=o3.put [SL.av sl0,SL.av sl0];have hst:h3.store (h.next,0) [(.slice none 0 0 0),(.slice none 0 0 0)]=some (h3.put h.next (.row [SL.av sl0,SL.av sl0] .own)):=o3.store rfl;rw [hst,bA,gA4 (iB o3 _)];exact ⟨sl0,sl0,_,_,rfl,c03.put (.inr (Nat.le_refl _)) _,Sl.nil _ _ _,Sl.nil _ _ _,F,rfl,f2.chg cp (by simpa using fun e=>hne e.symm)⟩
 | inl T=>
  rw [hl] at p3;obtain ⟨pe,po,pl⟩:=p3;obtain ⟨hT,hT0⟩:=qA0 (by omega) hl (by omega);rw [pe,ne_nil];simp only [fA,jB,cond_false];have sl3:=po.sl;have hz:r2.1.sz=3:=by
   rcases po with ⟨_,_,_,h4⟩ | ⟨A,cs,st',vs,_,h2,_⟩
   ·have:T.length=0:=by rw [← List.length_map (f:=tAa),h4];rfl
    omega
   ·exact h2
  have oC:=wA h3 [SL.av sl0,SL.av sl0];have cC:=vA h3 (.row [SL.av sl0,SL.av sl0] .own);have eC:h3.push (.row [(.slice none 0 0 0),(.slice none 0 0 0)] .own)=h3.push (.row [SL.av sl0,SL.av sl0] .own):=rfl;have nC:(h3.push (.row [SL.av sl0,SL.av sl0] .own)).next=h3.next+1:=rfl;rw [eC];have o7:=o3.chg cC (by simp);have sl7:=(sl3.weak (W:=fun A=>A<h3.next) (fun C _ hlt=>hlt)).chg cC (by simp);generalize h3.push (.row [SL.av sl0,SL.av sl0] .own)=h7 at *;have oP:=wA h7 [SL.av r2.1,.int .i64 0,.int .i64 0,AV.nilIface];have cP:=vA h7 (.row [SL.av r2.1,.int .i64 0,.int .i64 0,AV.nilIface] .own);have eP:h7.push (.row [(.slice r2.1.a r2.1.len r2.1.cap r2.1.sz),(.int .i64 0),(.int .i64 0),AV.nilIface] .own)=h7.push (.row [SL.av r2.1,.int .i64 0,.int .i64 0,AV.nilIface] .own):=rfl;have nP:(h7.push (.row [SL.av r2.1,.int .i64 0,.int .i64 0,AV.nilIface] .own)).next=h7.next+1:=rfl;rw [eP];have oC8:=oC.chg cP (by simp);have o8:=o7.chg cP (by simp);have c08:=(c03.trans cC).trans cP;have p8:=jN c08 (by simp) h4 hp;have sl8:=(sl7.weak (W:=fun A=>A<h7.next) (fun A hA _=>by omega)).chg cP (by simp);generalize h7.push (.row [SL.av r2.1,.int .i64 0,.int .i64 0,AV.nilIface] .own)=h8 at *;have x8:PC T h7.next [] h8 (0,none) 0:=⟨⟨⟨r2.1,AV.nilIface,oP,sl8,hz,rfl⟩,hT0,by simp⟩,p8,by omega⟩;have cr8:qAl h8 h8 h3.next [] []:=⟨sl0,sl0,oC8,OwV.nil _ _ _ _,OwV.nil _ _ _ _⟩;obtain ⟨h23,xs',ys',e23,c23,⟨v,w,o23,w1,w2⟩,⟨er,k23,her⟩,hres⟩:=rAl (N:=N) hT hN2 (R:=some (h.next,0)) (C:=h3.next) (P:=h7.next) (by omega) (by omega) 256 N h8 0 0 [] [] (by omega) (Nat.le_refl _) (by simp) (by simp) x8 (Chg.refl _ _) cr8;rw [show ((256-256:Nat):Int)=0 from rfl] at e23;rw [e23];simp only [yB,bA,Nat.zero_add,k23,fA,wD,her.ne 43,jB,iW];have o23':=o8.chg c23 (by simp;omega);have c023:Chg [] h h23:=c08.step c23 (fun A hA hl=>by simp only [List.mem_cons,List.not_mem_nil,or_false] at hA;omega);have hn8:=c23.next;have herC:∀ {hh:Heap} {vs:List AV},Chg [h.next] h23 hh→ErrW hh er (aE T 256 0).2:=fun c=>her.chg c fun A hA=>by
   rw [List.mem_singleton] at hA;subst hA;exact ⟨_,_,o23',fun n=>by simp [SL.av]⟩
  cases he:(aE T 256 0).2 with
  | some q=>
   simp only [Option.isSome_some,cond_true];have hst:h23.store (h.next,0) [(.slice none 0 0 0),(.slice none 0 0 0)]=some (h23.put h.next (.row [SL.av sl0,SL.av sl0] .own)):=o23'.store rfl;rw [hst,bA];have cp:=o23'.put [SL.av sl0,SL.av sl0];have hPP:∀ x,h23.cell (h7.next,3)=some x→(h23.put h.next (.row [SL.av sl0,SL.av sl0] .own)).cell (h7.next,3)=some x:=by
    intro x hx;rw [Heap.cell_g,cp.g h7.next (by have:=c23.next;omega) (by simp;omega),← Heap.cell_g];exact hx
   rw [hPP _ k23];simp only [rD,cond_true,yC];rw [gA4 (iB o23' _)];exact ⟨sl0,sl0,er,_,rfl,c023.put (.inr (Nat.le_refl _)) _,Sl.nil _ _ _,Sl.nil _ _ _,by rw [← he];exact herC (vs:=[]) cp⟩
  | none=>
   obtain ⟨hx1,hy1⟩:=hres he;rw [List.nil_append] at hx1 hy1;subst hx1;subst hy1;simp only [Option.isSome_none,cond_false];rw [gA4 o23];have hst:h23.store (h.next,0) [(.slice v.a v.len v.cap v.sz),(.slice w.a w.len w.cap w.sz)]=some (h23.put h.next (.row [SL.av v,SL.av w] .own)):=o23'.store rfl;rw [hst,bA,gA4 (iB o23' _)];have cp:=o23'.put [SL.av v,SL.av w];refine ⟨v,w,AV.nilIface,_,rfl,c023.put (.inr (Nat.le_refl _)) _,?_,?_,rfl⟩
   ·exact (w1.sl.chg cp (fun A hA=>by have:=hA.1;simp;omega)).weak fun A hA _=>by have:=hA.1;omega
   ·exact (w2.sl.chg cp (fun A hA=>by have:=hA.1;simp;omega)).weak fun A hA _=>by have:=hA.1;omega
end
end Qp
namespace Qp
structure Cut (T' T:List Tok) (E:Nat) (Bd:Int×Int→Prop):Prop where
 k:(tk T' E).1=0
 lt:∀ i,i<E→tk T' i=tk T i
 bad:Bd (21,((tk T' E).2.2:Int))
def bnd {σ α β:Type} (f:σ→α×σ) (g:α→σ→β×σ):σ→β×σ:=fun s=>g (f s).1 (f s).2
def kG {σ α β:Type} (h:α→β) (f:σ→α×σ):σ→β×σ:=fun s=>(h (f s).1,(f s).2)
def nK {σ α:Type} (x:α):σ→α×σ:=fun s=>(x,s)
section
variable {α β γ:Type} {σ:Type} (st:σ→St) (inv:σ→Prop) (E:Nat) (Bd:Int×Int→Prop)
def lBg (s:σ):Prop:=∃ j e,st s=(j,some e)∧Bd e
def iBh (F:σ→α×σ):Prop:=∀ s,(st (F s).2).2.isSome=true
def AtE (s:σ):Prop:=st s=(E,none)∧inv s
def RA (F' F:σ→α×σ) (s:σ):Prop:=F' s=F s∧(st (F s).2).2=none∧(st (F s).2).1≤E∧inv (F s).2
def RB (F' F:σ→α×σ) (s:σ):Prop:=∃ j e,st (F' s).2=(j,some e)∧((st (F s).2).2.isSome=true∨Bd e)
structure GD (F' F:σ→α×σ):Prop where
 e':∀ s,(st s).2.isSome=true→st (F' s).2=st s
 e:∀ s,(st s).2.isSome=true→st (F s).2=st s
 c:∀ s,AtE st inv E s→AtE st inv E (F' s).2∨lBg st Bd (F' s).2∨((st (F' s).2).2.isSome=true∧iBh st F)
 a:∀ s,(st s).2=none→(st s).1<E→inv s→RA st inv E F' F s∨RB st Bd F' F s∨AtE st inv E (F' s).2
structure G (F' F:σ→α×σ):Prop extends GD st inv E Bd F' F where
 c1:∀ s,AtE st inv E s→AtE st inv E (F' s).2∨lBg st Bd (F' s).2
end
section
variable {α β γ:Type} {σ:Type} {st:σ→St} {inv:σ→Prop} {E:Nat} {Bd:Int×Int→Prop}
end
section
variable {T' T:List Tok} {E:Nat} {Bd:Int×Int→Prop} {α:Type}
def dH (T:List Tok) (w:Bs):St→Unit×St:=fun σ=>((),eD T w σ)
def cAr (T:List Tok) (c:Int) (x:α):St→α×St:=fun σ=>(x,cF T c σ)
def aK (T:List Tok) (w:Bs) (Y X:St→α×St):St→α×St:=fun σ=>if (qB T w σ).1=true then Y (qB T w σ).2 else X (qB T w σ).2
theorem qA6 {T:List Tok} {w:Bs} {Y X:St→α×St} {i:Nat}:aK T w Y X (i,none)=if isS T w i=true then Y (i+1,none) else X (i,none):=by
 by_cases h:isS T w i=true <;> simp [aK,qB,h]
end
end Qp
namespace Qp
section
variable {T' T:List Tok} {E:Nat} {Bd:Int×Int→Prop}
end
end Qp
namespace Qp
open Go.ChangeShapes Go.WideShapes
open Go.Proofs.YtkcjphhjmlienaaGreatDoor
section
variable {H:Type} {P:Program} {h:Heap} {S:List TypeId}
end
end Qp
namespace Qp
inductive PT where
 | int | bool | st (nm:Bs) (lv:List Bs) | ref (mu:Bool) (lv:List Bs) (t:PT)
def PT.D:PT→D
 | .int=>tyD 1 [] [] []
 | .bool=>tyD 2 [] [] []
 | .st nm lv=>tyD 3 nm lv []
 | .ref mu lv t=>tyD (if mu=true then 5 else 4) [] lv [t.D]
def longP (s:Bs):Prop:=yG s=true∨∃ a b,s=a++[58,58]++b∧yG a=true∧yG b=true
def PT.ok:Nat→PT→Prop
 | 0,_=>False
 | _+1,.int=>True
 | _+1,.bool=>True
 | _+1,.st nm lv=>longP nm∧lv.length≤64∧∀ x∈lv,dN x=true
 | g+1,.ref _ lv t=>lv.length≤1∧(∀ x∈lv,dN x=true)∧t.ok g
end Qp
namespace Qp
end Qp
namespace Qp
theorem dAr {x:Bs} (h:dN x=true):1≤x.length∧x.length≤32:=by
 simp only [dN,Bool.and_eq_true,decide_eq_true_eq] at h;exact ⟨h.1.1.1,h.1.1.2⟩
section
variable {N:Nat} {h:Heap} {V:Nat→Prop}
theorem bA1 {x:Bs} (h:yG x=true):1≤x.length∧x.length≤32:=by
 simp only [yG,Bool.and_eq_true] at h;exact dAr h.1
theorem eAr {x:Bs} (h:longP x):x.length≤66:=by
 rcases h with h | ⟨a,b,rfl,ha,hb⟩
 ·have:=bA1 h;omega
 ·have h1:=bA1 ha
  have h2:=bA1 hb;simp only [List.length_append,List.length_cons,List.length_nil];omega
theorem jB2:∀ {g:Nat} {p:PT},p.ok g→isTy g p.D
 | 0,p,h=>by cases p <;> cases h
 | g+1,.int,_=>⟨1,[],[],[],rfl,by simp,by simp,by simp⟩
 | g+1,.bool,_=>⟨2,[],[],[],rfl,by simp,by simp,by simp⟩
 | g+1,.st nm lv,⟨h1,h2,h3⟩=>⟨3,nm,lv,[],rfl,by omega,by simp,by simp⟩
 | g+1,.ref mu lv t,⟨h1,h2,h3⟩=>⟨_,[],lv,[t.D],rfl,by omega,by simp,fun e he=>by
   rw [List.mem_singleton] at he;subst he;exact jB2 h3⟩
end
end Qp
namespace Qp
abbrev KT:=Int×Bs
def kt (q:Tok):KT:=(q.1,q.2.1)
theorem fAr:∀ {x:Bs},runN x=x.length→∀ c∈x,vQ c=true
 | [],_,c,hc=>by cases hc
 | d::x,h,c,hc=>by
  simp only [runN] at h
  split at h
  ·rename_i hd
   rcases List.mem_cons.1 hc with rfl | hc
   ·exact hd
   ·exact fAr (by simpa using h) c hc
  ·simp at h
theorem bAf {x:Bs} (h:dN x=true):∃ c q,x=c::q∧bD c=true∧(∀ c∈x,vQ c=true)∧x.length≤32:=by
 simp only [dN,Bool.and_eq_true,decide_eq_true_eq] at h;obtain ⟨⟨⟨h1,h2⟩,h3⟩,h4⟩:=h
 cases x with
 | nil=>simp at h1
 | cons c q=>exact ⟨c,q,rfl,h3,fAr h4,h2⟩
end Qp
namespace Qp
def rA6:Er3→Int×Int
 | none=>(0,0)
 | some (c,a,none)=>(c,a)
 | some (c,_,some b)=>(c,b)
section
variable {N:Nat} {h:Heap}
theorem gAr {B:Nat} {c a b k:Int} {M:Nat} (o:h.own B [.int .i64 c,.int .i64 a,AV.iface 78 (.int .i64 k)]) (v6 v7:Int) {n:Int} (hn:n<200):∃ o',pAh N (M+1) (some (B,0)) v6 v7 n h=some (o',(v6,v7,()),h):=by
 have k2:h.cell (B,2)=some (AV.iface 78 (.int .i64 k)):=o.cell 2;rw [fA0];unfold yX
 have:uB n 200=true:=by rw [ltI];exact decide_eq_true hn
 rw [this];simp only [cond_true,bA,Nat.zero_add,k2,fA,wD];rw [aAi];simp only [Bool.not_false,cond_true];exact ⟨_,rfl⟩
theorem yBe {v:AV} {e:Er3} (x:ErrW h v e) (hN:10≤N):f29 N v h=some (((rA6 e).1,(rA6 e).2,()),h):=by
 unfold f29;obtain ⟨N,rfl⟩:∃ m,N=m+2:=⟨N-2,by omega⟩
 match e with
 | none=>rw [show v=AV.nilIface from x,eq_nil];rfl
 | some (c,a,none)=>
  obtain ⟨F,f1,f2⟩:=x;rw [f1,iO];simp only [fA,jB,cond_false];rw [aT];have k0:h.cell (F,0)=some (.int .i64 c):=f2.cell 0;have k1:h.cell (F,1)=some (.int .i64 a):=f2.cell 1;simp only [Bool.not_true,cond_false,Option.isNone_some,bA,Nat.add_zero,Nat.zero_add,k0,k1,fA,kB];obtain ⟨o',e'⟩:=gAr (N:=N+2) (M:=N+1) (b:=0) f2 c a (n:=0) (by omega);rw [e'];rfl
 | some (c,a,some b)=>
  obtain ⟨A,B,f1,f2,f3⟩:=x;rw [f1,iO];simp only [fA,jB,cond_false];rw [aT];have k0:h.cell (A,0)=some (.int .i64 c):=f2.cell 0;have k1:h.cell (A,1)=some (.int .i64 a):=f2.cell 1;have k2:h.cell (A,2)=some (AV.iface 127 (.ptr (some (B,0)))):=f2.cell 2;have j1:h.cell (B,1)=some (.int .i64 b):=f3.cell 1;simp only [Bool.not_true,cond_false,Option.isNone_some,bA,Nat.add_zero,Nat.zero_add,k0,k1,fA,kB];rw [fA0];unfold yX;rw [show uB 0 200=true from rfl];simp only [cond_true,bA,Nat.zero_add,k2,fA,wD];rw [aT];simp only [Bool.not_true,cond_false,Option.isNone_some,bA,Nat.zero_add,j1,fA,kB];rw [show bB .i64 (0+1)=1 from rfl];obtain ⟨o',e'⟩:=gAr (N:=N+2) (M:=N) (b:=0) f3 c b (n:=1) (by omega);rw [e'];rfl
theorem aBf {v:AV} {e:Er3} (x:ErrW h v e) (hN:10≤N) (c a:Int):f18 N v c a h=some (decide (rA6 e=(c,a)),h):=by
 unfold f18;rw [yBe x hN,aA];simp only [eqI]
 by_cases q:(rA6 e).1=c
 ·simp only [q,decide_true,cond_true]
  by_cases q2:(rA6 e).2=a
  ·have:rA6 e=(c,a):=by rw [← q,← q2]
   simp only [q2,this,decide_true]
  ·have:¬ rA6 e=(c,a):=fun h=>q2 (by rw [h])
   simp [q2,this]
 ·have:¬ rA6 e=(c,a):=fun h=>q (by rw [h])
  simp [q,this]
end
section
variable {T l r:List Tok} {i:Nat} {k:Int} {x w:Bs} {a:Nat}
end
end Qp
namespace Qp
section
variable {T r:List Tok} {i a c:Nat}
theorem kAb (one:SC→D×SC) (f:Nat) (e:Int×Int):cE T one f ((i,some e),c)=(([],false),((i,some e),c)):=by
 cases f <;> simp [cE]
end
end Qp
namespace Qp
section
variable {T' T:List Tok} {E:Nat} {Bd:Int×Int→Prop} {α β γ:Type}
def lAb (F:St→α×St):SC→α×SC:=fun s=>((F s.1).1,((F s.1).2,s.2))
def uAt (T:List Tok) (w:Bs) (Y X:SC→α×SC):SC→α×SC:=fun s=>if (qB T w s.1).1=true then Y ((qB T w s.1).2,s.2) else X ((qB T w s.1).2,s.2)
def isJ (T:List Tok) (w:Bs) (Y X:SC→α×SC):SC→α×SC:=fun s=>if (qB T w s.1).1=true then Y s else X s
theorem tA6 {w:Bs} {Y X:SC→α×SC} {i c:Nat}:uAt T w Y X ((i,none),c)=if isS T w i=true then Y ((i+1,none),c) else X ((i,none),c):=by
 by_cases h:isS T w i=true <;> simp [uAt,qB,h]
theorem kB9 {w:Bs} {Y X:SC→α×SC} {i c:Nat}:isJ T w Y X ((i,none),c)=if isS T w i=true then Y ((i,none),c) else X ((i,none),c):=by
 by_cases h:isS T w i=true <;> simp [isJ,qB,h]
def ifF (T:List Tok) (blk:SC→List D×SC):SC→(List D×Option (List D))×SC:=bnd blk fun t=>uAt T [101,108,115,101] (kG (fun f=>(t,some f)) blk) (nK (t,none))
def ifV (a:Int) (o:D):List D×Option (List D)→D
 | (t,some f)=>smD { bE a with k:=4,has:=true } { lI with co:=o,th:=t,el:=f }
 | (t,none)=>smD { bE a with k:=4 } { lI with co:=o,th:=t }
def iAr (T:List Tok) (blk:SC→List D×SC) (a:Int):SC→D×SC:=
 uAt T [108,101,116] (lAb (kAl T a)) (uAt T [105,102] (bnd (lAb (eF T)) fun o=>kG (ifV a o) (ifF T blk))
  (uAt T [119,104,105,108,101] (bnd (lAb (eF T)) fun o=>kG (fun t=>smD { bE a with k:=5 } { lI with co:=o,th:=t }) blk)
   (uAt T [108,111,111,112] (kG (fun t=>smD { bE a with k:=6 } { lI with th:=t }) blk)
    (isJ T [123] (kG (fun t=>smD { bE a with k:=7 } { lI with th:=t }) blk) (lAb (bnd (wE T a) fun x=>kG (fun _=>x) (dH T [59])))))))
theorem kB2 (T:List Tok) (blk:SC→List D×SC) (s:SC):mN T blk s=iAr T blk ((tk T s.1.1).2.2:Int) s:=by
 simp only [mN,iAr,uAt,isJ,lAb,bnd,kG,dH,ifF,nK]
 split
 ·rfl
 ·split
  ·split
   ·rename_i h;simp only [h,if_true];rfl
   ·rename_i h;simp only [h,Bool.false_eq_true,if_false];rfl
  ·split
   ·rfl
   ·split
    ·rfl
    ·split
     ·rename_i hn hb
      rfl
     ·rfl
theorem mAi {one:SC→D×SC} {f i c:Nat}:cE T one (f+1) ((i,none),c)=if isS T [125] i=true then (([],false),((i+1,none),c)) else if c=2000∧(tk T i).1≠0 then (([],true),(cF T 5 (i,none),c)) else (((one ((i,none),c+1)).1::(cE T one f (one ((i,none),c+1)).2).1.1,(cE T one f (one ((i,none),c+1)).2).1.2),(cE T one f (one ((i,none),c+1)).2).2):=by
 by_cases h:isS T [125] i=true <;> simp [cE,qB,h]
def nAi (r:List D×Bool):List D:=if r.2=true then [] else r.1
theorem oAi (T:List Tok) (g:Nat) (s:SC) (x:(List D×Bool)×SC) (h:cE T (mN T (mF T g)) 2001 (eD T [123] s.1,s.2)=x):mF T (g+1) s=(nAi x.1,x.2):=by
 simp only [mF,h,nAi]
abbrev HdR:=Bs×List D×List D×D
def lT (T:List Tok):St→HdR×St:=
 bnd (aC T 1) fun n=>bnd (aK T [60] (bnd (yD T (eY T) [44]) fun l=>kG (fun _=>l) (dH T [62])) (nK [])) fun l=>bnd (dH T [40]) fun _=>bnd (aK T [41] (nK []) (bnd (yD T (bG T) [44]) fun p=>kG (fun _=>p) (dH T [41]))) fun p=>bnd (aK T [45,62] (fL T 64) (nK ty0D)) fun t=>nK (n,l,p,t)
def fnD (pub:Bool) (a:Int) (x:HdR) (b:List D):D:=fuD (dJ pub x.1 a) ⟨x.2.1,x.2.2.1,x.2.2.2,b⟩
theorem pAi (T:List Tok) (pub:Bool) (a:Int) (σ:St):gJ T pub a σ=(fnD pub a (lT T σ).1 (mF T 64 ((lT T σ).2,0)).1,(mF T 64 ((lT T σ).2,0)).2):=by
 simp only [gJ,lT,bnd,kG,nK,dH,aK,fnD]
 split <;> split <;> split <;> rfl
end
end Qp
namespace Qp
noncomputable section
def dA1 (N:Nat) (go:SL→SL→Bool→Int→Int→Heap→Option (Out×zA1×Heap)) (v0 v1:SL) (v4:Bool) (v12 v13:Int) (h:Heap):Option (Out×zA1×Heap):=let x2:=uB v13 v12;(bif x2 then(ixK v0.a v0.len v13 1 fun q3=>(iA (.val zW2) (h.cell q3) fun (x4:zA3)=>(ixK v1.a v1.len v13 1 fun q5=>(iA (.val zW2) (h.cell q5) fun (x6:zA3)=>let x7:=!pB x4 x6;(bif x7 then some (Out.ret,(false,()),h)else let x8:=bB .i64 (v13+1);go v0 v1 v4 v12 x8 h)))))else some ((Out.exit 0),(v4,()),h))
def uA6 (N M:Nat) (v0 v1:SL) (v4:Bool) (v12 v13:Int) (h:Heap):Option (Out×zA1×Heap):=iter (fun go s h=>dA1 N (fun v0 v1 v4 v12 v13 h=>go (v0,v1,v4,v12,v13,()) h) s.1 s.2.1 s.2.2.1 s.2.2.2.1 s.2.2.2.2.1 h) M (v0,v1,v4,v12,v13,()) h
theorem mAb (N M v0 v1 v4 v12 v13 h):uA6 N (M+1) v0 v1 v4 v12 v13 h=dA1 N (uA6 N M) v0 v1 v4 v12 v13 h:=rfl
def f106 (N:Nat) (a0 a1:SL) (h:Heap):Option (Bool×Heap):=let x1:=!pA (Int.ofNat a0.len) (Int.ofNat a1.len);(bif x1 then some (false,h)else(eE (uA6 N N a0 a1 false (Int.ofNat a0.len) 0 h) fun o9 (j10:zA1) h11=>(bif mD o9 (.exit 0) then some (true,h11)else some (j10.1,h11))))
def lB9:Ann:=(.two .n (.two .n (.two (.two .n (.two (.loop [(0,zV2),(1,zV2),(4,zX2),(12,zY2),(13,zY2)] [(.exit 0),.ret] [(4,zX2)] .n) .n)) .n)))
theorem cAf (N:Nat):cD Tryz.prog 106 [zV2,zV2] (.val zX2) (fun x h=>f106 N x.1 x.2.1 h):=pD lA N lB9 Tryz.f106
def qAi (N:Nat) (rec112:zP→zP→Heap→Option (Bool×Heap)) (rec162c112 rec193c112:SL→SL→(Unit)→Heap→Option (Bool×Heap)) (a0 a1:zP) (h:Heap):Option (Bool×Heap):=let h1:=h.push (.row (yRC a0) .own);let h2:=h1.push (.row (yRC a1) .own);(iA (.val zY2) (h2.cell ((h.next,0).1,(h.next,0).2+0)) fun (x3:Int)=>(iA (.val zY2) (h2.cell ((h1.next,0).1,(h1.next,0).2+0)) fun (x4:Int)=>let x5:=pA x3 x4;(bif x5 then(iA (.val zW2) (h2.cell ((h.next,0).1,(h.next,0).2+1)) fun (x6:zA3)=>(iA (.val zW2) (h2.cell ((h1.next,0).1,(h1.next,0).2+1)) fun (x7:zA3)=>let x8:=pB x6 x7;(bif x8 then(iA (.val zV2) (h2.cell ((h.next,0).1,(h.next,0).2+2)) fun (x9:SL)=>(iA (.val zV2) (h2.cell ((h1.next,0).1,(h1.next,0).2+2)) fun (x10:SL)=>(kA (f106 N x9 x10 h2) fun (x11:Bool) h12=>(bif x11 then(iA (.val zV2) (h12.cell ((h.next,0).1,(h.next,0).2+3)) fun (x13:SL)=>(iA (.val zV2) (h12.cell ((h1.next,0).1,(h1.next,0).2+3)) fun (x14:SL)=>(kA (rec162c112 x13 x14 (()) h12) fun (x15:Bool) h16=>some (x15,h16))))else some (false,h12)))))else some (false,h2))))else some (false,h2))))
def mB9:Ann:=.n
def uU (N:Nat) (rec112:zP→zP→Heap→Option (Bool×Heap)) (rec162c112 rec193c112:SL→SL→(Unit)→Heap→Option (Bool×Heap)) (a0 a1:SL) (a2:(Unit)) (h:Heap):Option (Bool×Heap):=(kA (rec193c112 a0 a1 (()) h) fun (x1:Bool) h2=>some (x1,h2))
def tAl:Ann:=.n
def vA6 (N:Nat) (rec112:zP→zP→Heap→Option (Bool×Heap)) (rec162c112 rec193c112:SL→SL→(Unit)→Heap→Option (Bool×Heap)) (go:SL→(Unit)→Bool→SL→Int→Int→Heap→Option (Out×zA1×Heap)) (v1:SL) (v2:(Unit)) (v6:Bool) (v15:SL) (v16 v17:Int) (h:Heap):Option (Out×zA1×Heap):=let x2:=uB v17 v16;(bif x2 then(ixK v15.a v15.len v17 4 fun q3=>(iA (.val zC) (h.cells q3 4) fun (x4:zP)=>let h5:=h.push (.row yZC .own);(uA (h5.store (h.next,0) (yRC x4)) fun h6=>(ixK v1.a v1.len v17 4 fun q7=>(iA (.val zC) (h6.cells q7 4) fun (x8:zP)=>let h9:=h6.push (.row yZC .own);(uA (h9.store (h6.next,0) (yRC x8)) fun h10=>(iA (.val zC) (h10.cells (h.next,0) 4) fun (x11:zP)=>(iA (.val zC) (h10.cells (h6.next,0) 4) fun (x12:zP)=>(kA (rec112 (x11.1,x11.2.1,x11.2.2.1,x11.2.2.2.1,()) (x12.1,x12.2.1,x12.2.2.1,x12.2.2.2.1,()) h10) fun (x13:Bool) h14=>let x15:=!x13;(bif x15 then some (Out.ret,(false,()),h14)else let x16:=bB .i64 (v17+1);go v1 (()) v6 v15 v16 x16 h14))))))))))else some ((Out.exit 0),(v6,()),h))
def eA1 (N:Nat) (rec112:zP→zP→Heap→Option (Bool×Heap)) (rec162c112 rec193c112:SL→SL→(Unit)→Heap→Option (Bool×Heap)) (M:Nat) (v1:SL) (v2:(Unit)) (v6:Bool) (v15:SL) (v16 v17:Int) (h:Heap):Option (Out×zA1×Heap):=iter (fun go s h=>vA6 N rec112 rec162c112 rec193c112 (fun v1 v2 v6 v15 v16 v17 h=>go (v1,v2,v6,v15,v16,v17,()) h) s.1 s.2.1 s.2.2.1 s.2.2.2.1 s.2.2.2.2.1 s.2.2.2.2.2.1 h) M (v1,v2,v6,v15,v16,v17,()) h
def uAl (N:Nat) (rec112:zP→zP→Heap→Option (Bool×Heap)) (rec162c112 rec193c112:SL→SL→(Unit)→Heap→Option (Bool×Heap)) (a0 a1:SL) (a2:(Unit)) (h:Heap):Option (Bool×Heap):=let x1:=!pA (Int.ofNat a0.len) (Int.ofNat a1.len);(bif x1 then some (false,h)else(eE (eA1 N rec112 rec162c112 rec193c112 N a1 (()) false a0 (Int.ofNat a0.len) 0 h) fun o17 (j18:zA1) h19=>(bif mD o17 (.exit 0) then some (true,h19)else some (j18.1,h19))))
def vAl:Ann:=(.two .n (.two .n (.two (.two .n (.two (.loop [(1,zV2),(2,(.clo 112 [])),(6,zX2),(15,zV2),(16,zY2),(17,zY2)] [(.exit 0),.ret] [(6,zX2)] .n) .n)) .n)))
def dAf (N M:Nat):((zP→zP→Heap→Option (Bool×Heap))×(SL→SL→(Unit)→Heap→Option (Bool×Heap))×(SL→SL→(Unit)→Heap→Option (Bool×Heap))×Unit):=Nat.rec (fun _ _ _=>none,fun _ _ _ _=>none,fun _ _ _ _=>none,()) (fun _ r=>(qAi N r.1 r.2.1 r.2.2.1,uU N r.1 r.2.1 r.2.2.1,uAl N r.1 r.2.1 r.2.2.1,())) M
def f112 (N M:Nat):zP→zP→Heap→Option (Bool×Heap):=(dAf N M).1
def mT (N M:Nat):SL→SL→(Unit)→Heap→Option (Bool×Heap):=(dAf N M).2.1
def nT (N M:Nat):SL→SL→(Unit)→Heap→Option (Bool×Heap):=(dAf N M).2.2.1
theorem jAr (N M a0 a1 h):f112 N (M+1) a0 a1 h=qAi N (f112 N M) (mT N M) (nT N M) a0 a1 h:=rfl
theorem wA6 (N M a0 a1 a2 h):mT N (M+1) a0 a1 a2 h=uU N (f112 N M) (mT N M) (nT N M) a0 a1 a2 h:=rfl
theorem wL (N:Nat):∀ M:Nat,(cD Tryz.prog 112 [zC,zC] (.val zX2) (fun x h=>f112 N M x.1 x.2.1 h))∧(cD Tryz.prog 162 [zV2,zV2,(.clo 112 [])] (.val zX2) (fun x h=>mT N M x.1 x.2.1 x.2.2.1 h))∧(cD Tryz.prog 193 [zV2,zV2,(.clo 112 [])] (.val zX2) (fun x h=>nT N M x.1 x.2.1 x.2.2.1 h))∧True
 | 0=>⟨(fun xs h r h' hx=>by cases hx),(fun xs h r h' hx=>by cases hx),(fun xs h r h' hx=>by cases hx),trivial⟩
 | M+1=>⟨pD (qC (sel:=fun a=>bL 2 112 a) (wL N M).2.1 (dA (cAf N) lA)) N mB9 Tryz.f112,pD (qC (sel:=fun a=>bL 2 112 a) (wL N M).2.2.1 lA) N tAl Tryz.f162,pD (dA (wL N M).1 lA) N vAl Tryz.f193,trivial⟩
theorem lB2 (N:Nat):cD Tryz.prog 112 [zC,zC] (.val zX2) (fun x h=>f112 N N x.1 x.2.1 h):=(wL N N).1
def f73 (N:Nat) (a0 a1:zD1) (h:Heap):Option (Bool×Heap):=none
theorem nB9 (N:Nat):cD Tryz.prog 73 [zH,zH] (.val zX2) (fun x h=>f73 N x.1 x.2.1 h):=fun xs h r h' hx=>by cases hx
def nAb (N:Nat) (go:SL→(Unit)→Bool→SL→Int→Int→Heap→Option (Out×zA1×Heap)) (v1:SL) (v2:(Unit)) (v6:Bool) (v15:SL) (v16 v17:Int) (h:Heap):Option (Out×zA1×Heap):=let x2:=uB v17 v16;(bif x2 then(ixK v15.a v15.len v17 5 fun q3=>(iA (.val zH) (h.cells q3 5) fun (x4:zD1)=>let h5:=h.push (.row yZG .own);(uA (h5.store (h.next,0) (yRH x4)) fun h6=>(ixK v1.a v1.len v17 5 fun q7=>(iA (.val zH) (h6.cells q7 5) fun (x8:zD1)=>let h9:=h6.push (.row yZG .own);(uA (h9.store (h6.next,0) (yRH x8)) fun h10=>(iA (.val zH) (h10.cells (h.next,0) 5) fun (x11:zD1)=>(iA (.val zH) (h10.cells (h6.next,0) 5) fun (x12:zD1)=>(kA (f73 N (x11.1,x11.2.1,x11.2.2.1,x11.2.2.2.1,x11.2.2.2.2.1,()) (x12.1,x12.2.1,x12.2.2.1,x12.2.2.2.1,x12.2.2.2.2.1,()) h10) fun (x13:Bool) h14=>let x15:=!x13;(bif x15 then some (Out.ret,(false,()),h14)else let x16:=bB .i64 (v17+1);go v1 (()) v6 v15 v16 x16 h14))))))))))else some ((Out.exit 0),(v6,()),h))
def iA4 (N M:Nat) (v1:SL) (v2:(Unit)) (v6:Bool) (v15:SL) (v16 v17:Int) (h:Heap):Option (Out×zA1×Heap):=iter (fun go s h=>nAb N (fun v1 v2 v6 v15 v16 v17 h=>go (v1,v2,v6,v15,v16,v17,()) h) s.1 s.2.1 s.2.2.1 s.2.2.2.1 s.2.2.2.2.1 s.2.2.2.2.2.1 h) M (v1,v2,v6,v15,v16,v17,()) h
def eAf (N:Nat) (a0 a1:SL) (a2:(Unit)) (h:Heap):Option (Bool×Heap):=let x1:=!pA (Int.ofNat a0.len) (Int.ofNat a1.len);(bif x1 then some (false,h)else(eE (iA4 N N a1 (()) false a0 (Int.ofNat a0.len) 0 h) fun o17 (j18:zA1) h19=>(bif mD o17 (.exit 0) then some (true,h19)else some (j18.1,h19))))
def kAr:Ann:=(.two .n (.two .n (.two (.two .n (.two (.loop [(1,zV2),(2,(.clo 73 [])),(6,zX2),(15,zV2),(16,zY2),(17,zY2)] [(.exit 0),.ret] [(6,zX2)] .n) .n)) .n)))
theorem wAl (N:Nat):cD Tryz.prog 105 [zV2,zV2,(.clo 73 [])] (.val zX2) (fun x h=>eAf N x.1 x.2.1 x.2.2.1 h):=pD (dA (nB9 N) lA) N kAr Tryz.f105
def jA4 (N:Nat) (a0 a1:SL) (a2:(Unit)) (h:Heap):Option (Bool×Heap):=(kA (eAf N a0 a1 (()) h) fun (x1:Bool) h2=>some (x1,h2))
def uAv:Ann:=.n
theorem lAr (N:Nat):cD Tryz.prog 72 [zV2,zV2,(.clo 73 [])] (.val zX2) (fun x h=>jA4 N x.1 x.2.1 x.2.2.1 h):=pD (qC (sel:=fun a=>bL 2 73 a) (wAl N) lA) N uAv Tryz.f72
def f164 (N:Nat) (a0 a1:zY) (h:Heap):Option (Bool×Heap):=let h1:=h.push (.row (yRI a0) .own);let h2:=h1.push (.row (yRI a1) .own);(iA (.val zW2) (h2.cell ((h.next,0).1,(h.next,0).2+0)) fun (x3:zA3)=>(iA (.val zW2) (h2.cell ((h1.next,0).1,(h1.next,0).2+0)) fun (x4:zA3)=>let x5:=pB x3 x4;(bif x5 then(iA (.val zV2) (h2.cell ((h.next,0).1,(h.next,0).2+1)) fun (x6:SL)=>(iA (.val zV2) (h2.cell ((h1.next,0).1,(h1.next,0).2+1)) fun (x7:SL)=>(kA (f106 N x6 x7 h2) fun (x8:Bool) h9=>some (x8,h9))))else some (false,h2))))
def oB9:Ann:=.n
theorem yA6 (N:Nat):cD Tryz.prog 164 [zI,zI] (.val zX2) (fun x h=>f164 N x.1 x.2.1 h):=pD (dA (cAf N) lA) N oB9 Tryz.f164
def f166 (N:Nat) (a0 a1:zT) (h:Heap):Option (Bool×Heap):=let h1:=h.push (.row (yRE a0) .own);let h2:=h1.push (.row (yRE a1) .own);(iA (.val zY2) (h2.cell ((h.next,0).1,(h.next,0).2+0)) fun (x3:Int)=>(iA (.val zY2) (h2.cell ((h1.next,0).1,(h1.next,0).2+0)) fun (x4:Int)=>let x5:=pA x3 x4;(bif x5 then(iA (.val zY2) (h2.cell ((h.next,0).1,(h.next,0).2+1)) fun (x6:Int)=>(iA (.val zY2) (h2.cell ((h1.next,0).1,(h1.next,0).2+1)) fun (x7:Int)=>let x8:=pA x6 x7;(bif x8 then(iA (.val zI) (h2.cells ((h.next,0).1,(h.next,0).2+2) 2) fun (x9:zY)=>(iA (.val zI) (h2.cells ((h1.next,0).1,(h1.next,0).2+2) 2) fun (x10:zY)=>(kA (f164 N (x9.1,x9.2.1,()) (x10.1,x10.2.1,()) h2) fun (x11:Bool) h12=>some (x11,h12))))else some (false,h2))))else some (false,h2))))
def pB9:Ann:=.n
theorem fAf (N:Nat):cD Tryz.prog 166 [zE,zE] (.val zX2) (fun x h=>f166 N x.1 x.2.1 h):=pD (dA (yA6 N) lA) N pB9 Tryz.f166
def aA7 (N:Nat) (go:SL→(Unit)→Bool→SL→Int→Int→Heap→Option (Out×zA1×Heap)) (v1:SL) (v2:(Unit)) (v6:Bool) (v15:SL) (v16 v17:Int) (h:Heap):Option (Out×zA1×Heap):=let x2:=uB v17 v16;(bif x2 then(ixK v15.a v15.len v17 4 fun q3=>(iA (.val zE) (h.cells q3 4) fun (x4:zT)=>let h5:=h.push (.row yZH .own);(uA (h5.store (h.next,0) (yRE x4)) fun h6=>(ixK v1.a v1.len v17 4 fun q7=>(iA (.val zE) (h6.cells q7 4) fun (x8:zT)=>let h9:=h6.push (.row yZH .own);(uA (h9.store (h6.next,0) (yRE x8)) fun h10=>(iA (.val zE) (h10.cells (h.next,0) 4) fun (x11:zT)=>(iA (.val zE) (h10.cells (h6.next,0) 4) fun (x12:zT)=>(kA (f166 N (x11.1,x11.2.1,x11.2.2.1,x11.2.2.2.1,()) (x12.1,x12.2.1,x12.2.2.1,x12.2.2.2.1,()) h10) fun (x13:Bool) h14=>let x15:=!x13;(bif x15 then some (Out.ret,(false,()),h14)else let x16:=bB .i64 (v17+1);go v1 (()) v6 v15 v16 x16 h14))))))))))else some ((Out.exit 0),(v6,()),h))
def fA1 (N M:Nat) (v1:SL) (v2:(Unit)) (v6:Bool) (v15:SL) (v16 v17:Int) (h:Heap):Option (Out×zA1×Heap):=iter (fun go s h=>aA7 N (fun v1 v2 v6 v15 v16 v17 h=>go (v1,v2,v6,v15,v16,v17,()) h) s.1 s.2.1 s.2.2.1 s.2.2.2.1 s.2.2.2.2.1 s.2.2.2.2.2.1 h) M (v1,v2,v6,v15,v16,v17,()) h
def bA7 (N:Nat) (a0 a1:SL) (a2:(Unit)) (h:Heap):Option (Bool×Heap):=let x1:=!pA (Int.ofNat a0.len) (Int.ofNat a1.len);(bif x1 then some (false,h)else(eE (fA1 N N a1 (()) false a0 (Int.ofNat a0.len) 0 h) fun o17 (j18:zA1) h19=>(bif mD o17 (.exit 0) then some (true,h19)else some (j18.1,h19))))
def yAl:Ann:=(.two .n (.two .n (.two (.two .n (.two (.loop [(1,zV2),(2,(.clo 166 [])),(6,zX2),(15,zV2),(16,zY2),(17,zY2)] [(.exit 0),.ret] [(6,zX2)] .n) .n)) .n)))
theorem gAf (N:Nat):cD Tryz.prog 214 [zV2,zV2,(.clo 166 [])] (.val zX2) (fun x h=>bA7 N x.1 x.2.1 x.2.2.1 h):=pD (dA (fAf N) lA) N yAl Tryz.f214
def yL (N:Nat) (a0 a1:SL) (a2:(Unit)) (h:Heap):Option (Bool×Heap):=(kA (bA7 N a0 a1 (()) h) fun (x1:Bool) h2=>some (x1,h2))
def aAm:Ann:=.n
theorem iAf (N:Nat):cD Tryz.prog 194 [zV2,zV2,(.clo 166 [])] (.val zX2) (fun x h=>yL N x.1 x.2.1 x.2.2.1 h):=pD (qC (sel:=fun a=>bL 2 166 a) (gAf N) lA) N aAm Tryz.f194
def f165 (N:Nat) (a0 a1:zO) (h:Heap):Option (Bool×Heap):=let h1:=h.push (.row (yRB a0) .own);let h2:=h1.push (.row (yRB a1) .own);(iA (.val zY2) (h2.cell ((h.next,0).1,(h.next,0).2+0)) fun (x3:Int)=>(iA (.val zY2) (h2.cell ((h1.next,0).1,(h1.next,0).2+0)) fun (x4:Int)=>let x5:=pA x3 x4;(bif x5 then(iA (.val zE) (h2.cells ((h.next,0).1,(h.next,0).2+1) 4) fun (x6:zT)=>(iA (.val zE) (h2.cells ((h1.next,0).1,(h1.next,0).2+1) 4) fun (x7:zT)=>(kA (f166 N (x6.1,x6.2.1,x6.2.2.1,x6.2.2.2.1,()) (x7.1,x7.2.1,x7.2.2.1,x7.2.2.2.1,()) h2) fun (x8:Bool) h9=>(bif x8 then(iA (.val zE) (h9.cells ((h.next,0).1,(h.next,0).2+5) 4) fun (x10:zT)=>(iA (.val zE) (h9.cells ((h1.next,0).1,(h1.next,0).2+5) 4) fun (x11:zT)=>(kA (f166 N (x10.1,x10.2.1,x10.2.2.1,x10.2.2.2.1,()) (x11.1,x11.2.1,x11.2.2.1,x11.2.2.2.1,()) h9) fun (x12:Bool) h13=>(bif x12 then(iA (.val zY2) (h13.cell ((h.next,0).1,(h.next,0).2+9)) fun (x14:Int)=>(iA (.val zY2) (h13.cell ((h1.next,0).1,(h1.next,0).2+9)) fun (x15:Int)=>let x16:=pA x14 x15;(bif x16 then(iA (.val zI) (h13.cells ((h.next,0).1,(h.next,0).2+10) 2) fun (x17:zY)=>(iA (.val zI) (h13.cells ((h1.next,0).1,(h1.next,0).2+10) 2) fun (x18:zY)=>(kA (f164 N (x17.1,x17.2.1,()) (x18.1,x18.2.1,()) h13) fun (x19:Bool) h20=>(bif x19 then(iA (.val zW2) (h20.cell ((h.next,0).1,(h.next,0).2+12)) fun (x21:zA3)=>(iA (.val zW2) (h20.cell ((h1.next,0).1,(h1.next,0).2+12)) fun (x22:zA3)=>let x23:=pB x21 x22;(bif x23 then(iA (.val zV2) (h20.cell ((h.next,0).1,(h.next,0).2+13)) fun (x24:SL)=>
 (iA (.val zV2) (h20.cell ((h1.next,0).1,(h1.next,0).2+13)) fun (x25:SL)=>(kA (f106 N x24 x25 h20) fun (x26:Bool) h27=>(bif x26 then(iA (.val zV2) (h27.cell ((h.next,0).1,(h.next,0).2+14)) fun (x28:SL)=>(iA (.val zV2) (h27.cell ((h1.next,0).1,(h1.next,0).2+14)) fun (x29:SL)=>(kA (yL N x28 x29 (()) h27) fun (x30:Bool) h31=>some (x30,h31))))else some (false,h27)))))else some (false,h20))))else some (false,h20)))))else some (false,h13))))else some (false,h13)))))else some (false,h9)))))else some (false,h2))))
def qB9:Ann:=.n
theorem mAr (N:Nat):cD Tryz.prog 165 [zB,zB] (.val zX2) (fun x h=>f165 N x.1 x.2.1 h):=pD (qC (sel:=fun a=>bL 2 166 a) (iAf N) (dA (fAf N) (dA (yA6 N) (dA (cAf N) lA)))) N qB9 Tryz.f165
def pO (N:Nat) (rec113c114:SL→SL→(Unit)→Heap→Option (Bool×Heap)) (rec114:zL→zL→Heap→Option (Bool×Heap)) (rec163c114:SL→SL→(Unit)→Heap→Option (Bool×Heap)) (a0 a1:SL) (a2:(Unit)) (h:Heap):Option (Bool×Heap):=(kA (rec163c114 a0 a1 (()) h) fun (x1:Bool) h2=>some (x1,h2))
def bAm:Ann:=.n
def rAi (N:Nat) (rec113c114:SL→SL→(Unit)→Heap→Option (Bool×Heap)) (rec114:zL→zL→Heap→Option (Bool×Heap)) (rec163c114:SL→SL→(Unit)→Heap→Option (Bool×Heap)) (a0 a1:zL) (h:Heap):Option (Bool×Heap):=let h1:=h.push (.row (yRA a0) .own);let h2:=h1.push (.row (yRA a1) .own);(iA (.val zY2) (h2.cell ((h.next,0).1,(h.next,0).2+0)) fun (x3:Int)=>(iA (.val zY2) (h2.cell ((h1.next,0).1,(h1.next,0).2+0)) fun (x4:Int)=>let x5:=pA x3 x4;(bif x5 then(iA (.val zY2) (h2.cell ((h.next,0).1,(h.next,0).2+1)) fun (x6:Int)=>(iA (.val zY2) (h2.cell ((h1.next,0).1,(h1.next,0).2+1)) fun (x7:Int)=>let x8:=pA x6 x7;(bif x8 then(iA (.val zX2) (h2.cell ((h.next,0).1,(h.next,0).2+2)) fun (x9:Bool)=>(iA (.val zX2) (h2.cell ((h1.next,0).1,(h1.next,0).2+2)) fun (x10:Bool)=>let x11:Bool:=(bif x9 then x10 else !x10);(bif x11 then(iA (.val zW2) (h2.cell ((h.next,0).1,(h.next,0).2+3)) fun (x12:zA3)=>(iA (.val zW2) (h2.cell ((h1.next,0).1,(h1.next,0).2+3)) fun (x13:zA3)=>let x14:=pB x12 x13;(bif x14 then(iA (.val zX2) (h2.cell ((h.next,0).1,(h.next,0).2+8)) fun (x15:Bool)=>(iA (.val zX2) (h2.cell ((h1.next,0).1,(h1.next,0).2+8)) fun (x16:Bool)=>let x17:Bool:=(bif x15 then x16 else !x16);(bif x17 then(iA (.val zC) (h2.cells ((h.next,0).1,(h.next,0).2+4) 4) fun (x18:zP)=>(iA (.val zC) (h2.cells ((h1.next,0).1,(h1.next,0).2+4) 4) fun (x19:zP)=>(kA (f112 N N (x18.1,x18.2.1,x18.2.2.1,x18.2.2.2.1,()) (x19.1,x19.2.1,x19.2.2.1,x19.2.2.2.1,()) h2) fun (x20:Bool) h21=>(bif x20 then
 (iA (.val zI) (h21.cells ((h.next,0).1,(h.next,0).2+9) 2) fun (x22:zY)=>(iA (.val zI) (h21.cells ((h1.next,0).1,(h1.next,0).2+9) 2) fun (x23:zY)=>(kA (f164 N (x22.1,x22.2.1,()) (x23.1,x23.2.1,()) h21) fun (x24:Bool) h25=>(bif x24 then(iA (.val zB) (h25.cells ((h.next,0).1,(h.next,0).2+11) 15) fun (x26:zO)=>(iA (.val zB) (h25.cells ((h1.next,0).1,(h1.next,0).2+11) 15) fun (x27:zO)=>(kA (f165 N (x26.1,x26.2.1,x26.2.2.1,x26.2.2.2.1,x26.2.2.2.2.1,x26.2.2.2.2.2.1,x26.2.2.2.2.2.2.1,x26.2.2.2.2.2.2.2.1,x26.2.2.2.2.2.2.2.2.1,x26.2.2.2.2.2.2.2.2.2.1,x26.2.2.2.2.2.2.2.2.2.2.1,x26.2.2.2.2.2.2.2.2.2.2.2.1,x26.2.2.2.2.2.2.2.2.2.2.2.2.1,x26.2.2.2.2.2.2.2.2.2.2.2.2.2.1,x26.2.2.2.2.2.2.2.2.2.2.2.2.2.2.1,()) (x27.1,x27.2.1,x27.2.2.1,x27.2.2.2.1,x27.2.2.2.2.1,x27.2.2.2.2.2.1,x27.2.2.2.2.2.2.1,x27.2.2.2.2.2.2.2.1,x27.2.2.2.2.2.2.2.2.1,x27.2.2.2.2.2.2.2.2.2.1,x27.2.2.2.2.2.2.2.2.2.2.1,x27.2.2.2.2.2.2.2.2.2.2.2.1,x27.2.2.2.2.2.2.2.2.2.2.2.2.1,x27.2.2.2.2.2.2.2.2.2.2.2.2.2.1,x27.2.2.2.2.2.2.2.2.2.2.2.2.2.2.1,()) h25) fun (x28:Bool) h29=>(bif x28 then(iA (.val zE) (h29.cells ((h.next,0).1,(h.next,0).2+26) 4) fun (x30:zT)=>(iA (.val zE) (h29.cells ((h1.next,0).1,(h1.next,0).2+26) 4) fun (x31:zT)=>(kA (f166 N (x30.1,x30.2.1,x30.2.2.1,x30.2.2.2.1,()) (x31.1,x31.2.1,x31.2.2.1,x31.2.2.2.1,()) h29) fun (x32:Bool) h33=>(bif x32 then(iA (.val zV2) (h33.cell ((h.next,0).1,(h.next,0).2+30)) fun (x34:SL)=>(iA (.val zV2) (h33.cell ((h1.next,0).1,(h1.next,0).2+30)) fun (x35:SL)=>
 (kA (rec113c114 x34 x35 (()) h33) fun (x36:Bool) h37=>(bif x36 then(iA (.val zV2) (h37.cell ((h.next,0).1,(h.next,0).2+31)) fun (x38:SL)=>(iA (.val zV2) (h37.cell ((h1.next,0).1,(h1.next,0).2+31)) fun (x39:SL)=>(kA (rec113c114 x38 x39 (()) h37) fun (x40:Bool) h41=>some (x40,h41))))else some (false,h37)))))else some (false,h33)))))else some (false,h29)))))else some (false,h25)))))else some (false,h21)))))else some (false,h2))))else some (false,h2))))else some (false,h2))))else some (false,h2))))else some (false,h2))))
def rB9:Ann:=.n
def cA7 (N:Nat) (rec113c114:SL→SL→(Unit)→Heap→Option (Bool×Heap)) (rec114:zL→zL→Heap→Option (Bool×Heap)) (rec163c114:SL→SL→(Unit)→Heap→Option (Bool×Heap)) (go:SL→(Unit)→Bool→SL→Int→Int→Heap→Option (Out×zA1×Heap)) (v1:SL) (v2:(Unit)) (v6:Bool) (v15:SL) (v16 v17:Int) (h:Heap):Option (Out×zA1×Heap):=let x2:=uB v17 v16;(bif x2 then(ixK v15.a v15.len v17 32 fun q3=>(iA (.val zA) (h.cells q3 32) fun (x4:zL)=>let h5:=h.push (.row yZA .own);(uA (h5.store (h.next,0) (yRA x4)) fun h6=>(ixK v1.a v1.len v17 32 fun q7=>(iA (.val zA) (h6.cells q7 32) fun (x8:zL)=>let h9:=h6.push (.row yZA .own);(uA (h9.store (h6.next,0) (yRA x8)) fun h10=>(iA (.val zA) (h10.cells (h.next,0) 32) fun (x11:zL)=>(iA (.val zA) (h10.cells (h6.next,0) 32) fun (x12:zL)=>(kA (rec114 (x11.1,x11.2.1,x11.2.2.1,x11.2.2.2.1,x11.2.2.2.2.1,x11.2.2.2.2.2.1,x11.2.2.2.2.2.2.1,x11.2.2.2.2.2.2.2.1,x11.2.2.2.2.2.2.2.2.1,x11.2.2.2.2.2.2.2.2.2.1,x11.2.2.2.2.2.2.2.2.2.2.1,x11.2.2.2.2.2.2.2.2.2.2.2.1,x11.2.2.2.2.2.2.2.2.2.2.2.2.1,x11.2.2.2.2.2.2.2.2.2.2.2.2.2.1,x11.2.2.2.2.2.2.2.2.2.2.2.2.2.2.1,x11.2.2.2.2.2.2.2.2.2.2.2.2.2.2.2.1,x11.2.2.2.2.2.2.2.2.2.2.2.2.2.2.2.2.1,x11.2.2.2.2.2.2.2.2.2.2.2.2.2.2.2.2.2.1,x11.2.2.2.2.2.2.2.2.2.2.2.2.2.2.2.2.2.2.1,x11.2.2.2.2.2.2.2.2.2.2.2.2.2.2.2.2.2.2.2.1,x11.2.2.2.2.2.2.2.2.2.2.2.2.2.2.2.2.2.2.2.2.1,x11.2.2.2.2.2.2.2.2.2.2.2.2.2.2.2.2.2.2.2.2.2.1,x11.2.2.2.2.2.2.2.2.2.2.2.2.2.2.2.2.2.2.2.2.2.2.1,x11.2.2.2.2.2.2.2.2.2.2.2.2.2.2.2.2.2.2.2.2.2.2.2.1,x11.2.2.2.2.2.2.2.2.2.2.2.2.2.2.2.2.2.2.2.2.2.2.2.2.1,x11.2.2.2.2.2.2.2.2.2.2.2.2.2.2.2.2.2.2.2.2.2.2.2.2.2.1,x11.2.2.2.2.2.2.2.2.2.2.2.2.2.2.2.2.2.2.2.2.2.2.2.2.2.2.1,x11.2.2.2.2.2.2.2.2.2.2.2.2.2.2.2.2.2.2.2.2.2.2.2.2.2.2.2.1,x11.2.2.2.2.2.2.2.2.2.2.2.2.2.2.2.2.2.2.2.2.2.2.2.2.2.2.2.2.1,x11.2.2.2.2.2.2.2.2.2.2.2.2.2.2.2.2.2.2.2.2.2.2.2.2.2.2.2.2.2.1,x11.2.2.2.2.2.2.2.2.2.2.2.2.2.2.2.2.2.2.2.2.2.2.2.2.2.2.2.2.2.2.1,x11.2.2.2.2.2.2.2.2.2.2.2.2.2.2.2.2.2.2.2.2.2.2.2.2.2.2.2.2.2.2.2.1,()) (x12.1,x12.2.1,x12.2.2.1,x12.2.2.2.1,x12.2.2.2.2.1,x12.2.2.2.2.2.1,x12.2.2.2.2.2.2.1,x12.2.2.2.2.2.2.2.1,x12.2.2.2.2.2.2.2.2.1,x12.2.2.2.2.2.2.2.2.2.1,x12.2.2.2.2.2.2.2.2.2.2.1,x12.2.2.2.2.2.2.2.2.2.2.2.1,x12.2.2.2.2.2.2.2.2.2.2.2.2.1,x12.2.2.2.2.2.2.2.2.2.2.2.2.2.1,x12.2.2.2.2.2.2.2.2.2.2.2.2.2.2.1,x12.2.2.2.2.2.2.2.2.2.2.2.2.2.2.2.1,x12.2.2.2.2.2.2.2.2.2.2.2.2.2.2.2.2.1,x12.2.2.2.2.2.2.2.2.2.2.2.2.2.2.2.2.2.1,x12.2.2.2.2.2.2.2.2.2.2.2.2.2.2.2.2.2.2.1,x12.2.2.2.2.2.2.2.2.2.2.2.2.2.2.2.2.2.2.2.1,x12.2.2.2.2.2.2.2.2.2.2.2.2.2.2.2.2.2.2.2.2.1,x12.2.2.2.2.2.2.2.2.2.2.2.2.2.2.2.2.2.2.2.2.2.1,x12.2.2.2.2.2.2.2.2.2.2.2.2.2.2.2.2.2.2.2.2.2.2.1,x12.2.2.2.2.2.2.2.2.2.2.2.2.2.2.2.2.2.2.2.2.2.2.2.1,x12.2.2.2.2.2.2.2.2.2.2.2.2.2.2.2.2.2.2.2.2.2.2.2.2.1,x12.2.2.2.2.2.2.2.2.2.2.2.2.2.2.2.2.2.2.2.2.2.2.2.2.2.1,x12.2.2.2.2.2.2.2.2.2.2.2.2.2.2.2.2.2.2.2.2.2.2.2.2.2.2.1,x12.2.2.2.2.2.2.2.2.2.2.2.2.2.2.2.2.2.2.2.2.2.2.2.2.2.2.2.1,x12.2.2.2.2.2.2.2.2.2.2.2.2.2.2.2.2.2.2.2.2.2.2.2.2.2.2.2.2.1,x12.2.2.2.2.2.2.2.2.2.2.2.2.2.2.2.2.2.2.2.2.2.2.2.2.2.2.2.2.2.1,x12.2.2.2.2.2.2.2.2.2.2.2.2.2.2.2.2.2.2.2.2.2.2.2.2.2.2.2.2.2.2.1,x12.2.2.2.2.2.2.2.2.2.2.2.2.2.2.2.2.2.2.2.2.2.2.2.2.2.2.2.2.2.2.2.1,()) h10) fun (x13:Bool) h14=>
 let x15:=!x13;(bif x15 then some (Out.ret,(false,()),h14)else let x16:=bB .i64 (v17+1);go v1 (()) v6 v15 v16 x16 h14))))))))))else some ((Out.exit 0),(v6,()),h))
def fR (N:Nat) (rec113c114:SL→SL→(Unit)→Heap→Option (Bool×Heap)) (rec114:zL→zL→Heap→Option (Bool×Heap)) (rec163c114:SL→SL→(Unit)→Heap→Option (Bool×Heap)) (M:Nat) (v1:SL) (v2:(Unit)) (v6:Bool) (v15:SL) (v16 v17:Int) (h:Heap):Option (Out×zA1×Heap):=iter (fun go s h=>cA7 N rec113c114 rec114 rec163c114 (fun v1 v2 v6 v15 v16 v17 h=>go (v1,v2,v6,v15,v16,v17,()) h) s.1 s.2.1 s.2.2.1 s.2.2.2.1 s.2.2.2.2.1 s.2.2.2.2.2.1 h) M (v1,v2,v6,v15,v16,v17,()) h
def cAm (N:Nat) (rec113c114:SL→SL→(Unit)→Heap→Option (Bool×Heap)) (rec114:zL→zL→Heap→Option (Bool×Heap)) (rec163c114:SL→SL→(Unit)→Heap→Option (Bool×Heap)) (a0 a1:SL) (a2:(Unit)) (h:Heap):Option (Bool×Heap):=let x1:=!pA (Int.ofNat a0.len) (Int.ofNat a1.len);(bif x1 then some (false,h)else(eE (fR N rec113c114 rec114 rec163c114 N a1 (()) false a0 (Int.ofNat a0.len) 0 h) fun o17 (j18:zA1) h19=>(bif mD o17 (.exit 0) then some (true,h19)else some (j18.1,h19))))
def dAm:Ann:=(.two .n (.two .n (.two (.two .n (.two (.loop [(1,zV2),(2,(.clo 114 [])),(6,zX2),(15,zV2),(16,zY2),(17,zY2)] [(.exit 0),.ret] [(6,zX2)] .n) .n)) .n)))
def gR (N M:Nat):((SL→SL→(Unit)→Heap→Option (Bool×Heap))×(zL→zL→Heap→Option (Bool×Heap))×(SL→SL→(Unit)→Heap→Option (Bool×Heap))×Unit):=Nat.rec (fun _ _ _ _=>none,fun _ _ _=>none,fun _ _ _ _=>none,()) (fun _ r=>(pO N r.1 r.2.1 r.2.2.1,rAi N r.1 r.2.1 r.2.2.1,cAm N r.1 r.2.1 r.2.2.1,())) M
def aM (N M:Nat):SL→SL→(Unit)→Heap→Option (Bool×Heap):=(gR N M).1
def f114 (N M:Nat):zL→zL→Heap→Option (Bool×Heap):=(gR N M).2.1
def bM (N M:Nat):SL→SL→(Unit)→Heap→Option (Bool×Heap):=(gR N M).2.2.1
theorem oT (N M a0 a1 a2 h):aM N (M+1) a0 a1 a2 h=pO N (aM N M) (f114 N M) (bM N M) a0 a1 a2 h:=rfl
theorem oAb (N M a0 a1 h):f114 N (M+1) a0 a1 h=rAi N (aM N M) (f114 N M) (bM N M) a0 a1 h:=rfl
theorem eH (N:Nat):∀ M:Nat,(cD Tryz.prog 113 [zV2,zV2,(.clo 114 [])] (.val zX2) (fun x h=>aM N M x.1 x.2.1 x.2.2.1 h))∧(cD Tryz.prog 114 [zA,zA] (.val zX2) (fun x h=>f114 N M x.1 x.2.1 h))∧(cD Tryz.prog 163 [zV2,zV2,(.clo 114 [])] (.val zX2) (fun x h=>bM N M x.1 x.2.1 x.2.2.1 h))∧True
 | 0=>⟨(fun xs h r h' hx=>by cases hx),(fun xs h r h' hx=>by cases hx),(fun xs h r h' hx=>by cases hx),trivial⟩
 | M+1=>⟨pD (qC (sel:=fun a=>bL 2 114 a) (eH N M).2.2.1 lA) N bAm Tryz.f113,pD (dA (fAf N) (dA (mAr N) (dA (yA6 N) (qC (sel:=fun a=>bL 2 114 a) (eH N M).1 (dA (lB2 N) lA))))) N rB9 Tryz.f114,pD (dA (eH N M).2.1 lA) N dAm Tryz.f163,trivial⟩
theorem mB2 (N:Nat):cD Tryz.prog 114 [zA,zA] (.val zX2) (fun x h=>f114 N N x.1 x.2.1 h):=(eH N N).2.1
def f75 (N:Nat) (a0 a1:zU) (h:Heap):Option (Bool×Heap):=none
theorem tB9 (N:Nat):cD Tryz.prog 75 [zD,zD] (.val zX2) (fun x h=>f75 N x.1 x.2.1 h):=fun xs h r h' hx=>by cases hx
def pAb (N:Nat) (go:SL→(Unit)→Bool→SL→Int→Int→Heap→Option (Out×zA1×Heap)) (v1:SL) (v2:(Unit)) (v6:Bool) (v15:SL) (v16 v17:Int) (h:Heap):Option (Out×zA1×Heap):=let x2:=uB v17 v16;(bif x2 then(ixK v15.a v15.len v17 10 fun q3=>(iA (.val zD) (h.cells q3 10) fun (x4:zU)=>let h5:=h.push (.row yZD .own);(uA (h5.store (h.next,0) (yRD x4)) fun h6=>(ixK v1.a v1.len v17 10 fun q7=>(iA (.val zD) (h6.cells q7 10) fun (x8:zU)=>let h9:=h6.push (.row yZD .own);(uA (h9.store (h6.next,0) (yRD x8)) fun h10=>(iA (.val zD) (h10.cells (h.next,0) 10) fun (x11:zU)=>(iA (.val zD) (h10.cells (h6.next,0) 10) fun (x12:zU)=>(kA (f75 N (x11.1,x11.2.1,x11.2.2.1,x11.2.2.2.1,x11.2.2.2.2.1,x11.2.2.2.2.2.1,x11.2.2.2.2.2.2.1,x11.2.2.2.2.2.2.2.1,x11.2.2.2.2.2.2.2.2.1,x11.2.2.2.2.2.2.2.2.2.1,()) (x12.1,x12.2.1,x12.2.2.1,x12.2.2.2.1,x12.2.2.2.2.1,x12.2.2.2.2.2.1,x12.2.2.2.2.2.2.1,x12.2.2.2.2.2.2.2.1,x12.2.2.2.2.2.2.2.2.1,x12.2.2.2.2.2.2.2.2.2.1,()) h10) fun (x13:Bool) h14=>let x15:=!x13;(bif x15 then some (Out.ret,(false,()),h14)else let x16:=bB .i64 (v17+1);go v1 (()) v6 v15 v16 x16 h14))))))))))else some ((Out.exit 0),(v6,()),h))
def kA4 (N M:Nat) (v1:SL) (v2:(Unit)) (v6:Bool) (v15:SL) (v16 v17:Int) (h:Heap):Option (Out×zA1×Heap):=iter (fun go s h=>pAb N (fun v1 v2 v6 v15 v16 v17 h=>go (v1,v2,v6,v15,v16,v17,()) h) s.1 s.2.1 s.2.2.1 s.2.2.2.1 s.2.2.2.2.1 s.2.2.2.2.2.1 h) M (v1,v2,v6,v15,v16,v17,()) h
def jAf (N:Nat) (a0 a1:SL) (a2:(Unit)) (h:Heap):Option (Bool×Heap):=let x1:=!pA (Int.ofNat a0.len) (Int.ofNat a1.len);(bif x1 then some (false,h)else(eE (kA4 N N a1 (()) false a0 (Int.ofNat a0.len) 0 h) fun o17 (j18:zA1) h19=>(bif mD o17 (.exit 0) then some (true,h19)else some (j18.1,h19))))
def nAr:Ann:=(.two .n (.two .n (.two (.two .n (.two (.loop [(1,zV2),(2,(.clo 75 [])),(6,zX2),(15,zV2),(16,zY2),(17,zY2)] [(.exit 0),.ret] [(6,zX2)] .n) .n)) .n)))
theorem eAm (N:Nat):cD Tryz.prog 109 [zV2,zV2,(.clo 75 [])] (.val zX2) (fun x h=>jAf N x.1 x.2.1 x.2.2.1 h):=pD (dA (tB9 N) lA) N nAr Tryz.f109
def lA4 (N:Nat) (a0 a1:SL) (a2:(Unit)) (h:Heap):Option (Bool×Heap):=(kA (jAf N a0 a1 (()) h) fun (x1:Bool) h2=>some (x1,h2))
def vAv:Ann:=.n
theorem oAr (N:Nat):cD Tryz.prog 74 [zV2,zV2,(.clo 75 [])] (.val zX2) (fun x h=>lA4 N x.1 x.2.1 x.2.2.1 h):=pD (qC (sel:=fun a=>bL 2 75 a) (eAm N) lA) N vAv Tryz.f74
def f30 (N:Nat) (a0 a1:zM1) (h:Heap):Option (Bool×Heap):=let h1:=h.push (.row (yRJ a0) .own);let h2:=h1.push (.row (yRJ a1) .own);(iA (.val zV2) (h2.cell ((h.next,0).1,(h.next,0).2+0)) fun (x3:SL)=>(iA (.val zV2) (h2.cell ((h1.next,0).1,(h1.next,0).2+0)) fun (x4:SL)=>(kA (jA4 N x3 x4 (()) h2) fun (x5:Bool) h6=>(bif x5 then(iA (.val zV2) (h6.cell ((h.next,0).1,(h.next,0).2+1)) fun (x7:SL)=>(iA (.val zV2) (h6.cell ((h1.next,0).1,(h1.next,0).2+1)) fun (x8:SL)=>(kA (lA4 N x7 x8 (()) h6) fun (x9:Bool) h10=>some (x9,h10))))else some (false,h6)))))
def bBf:Ann:=.n
theorem uB9 (N:Nat):cD Tryz.prog 30 [zK,zK] (.val zX2) (fun x h=>f30 N x.1 x.2.1 h):=pD (qC (sel:=fun a=>bL 2 75 a) (oAr N) (qC (sel:=fun a=>bL 2 73 a) (lAr N) lA)) N bBf Tryz.f30
end
end Qp
namespace Qp
def pAr (tys:List CTy) (n:Nat) (c:aP tys→List AV) (z:List AV) (F:aP tys→aP tys→Heap→Option (Bool×Heap)) (go:SL→Unit→Bool→SL→Int→Int→Heap→Option (Out×zA1×Heap)) (v1:SL) (v6:Bool) (v15:SL) (v16 v17:Int) (h:Heap):Option (Out×zA1×Heap):=
 bif uB v17 v16 then
  (ixK v15.a v15.len v17 n fun q3=>
  (iA (.val (.agg tys)) (h.cells q3 n) fun x4=>
  (uA ((h.push (.row z .own)).store (h.next,0) (c x4)) fun h6=>
  (ixK v1.a v1.len v17 n fun q7=>
  (iA (.val (.agg tys)) (h6.cells q7 n) fun x8=>
  (uA ((h6.push (.row z .own)).store (h6.next,0) (c x8)) fun h10=>
  (iA (.val (.agg tys)) (h10.cells (h.next,0) n) fun x11=>
  (iA (.val (.agg tys)) (h10.cells (h6.next,0) n) fun x12=>
  (kA (F x11 x12 h10) fun x13 h14=>
  (bif !x13 then some (Out.ret,(false,()),h14) else go v1 () v6 v15 v16 (bB .i64 (v17+1)) h14))))))))))
 else some ((Out.exit 0),(v6,()),h)
structure Rec (tys:List CTy) (n:Nat) (c:aP tys→List AV) (P:D→Prop):Prop where
 len:∀ r,(c r).length=n
 agg:∀ {β:Type} (r:aP tys) (K:aP tys→Option β),iA (.val (.agg tys)) (some (.agg (c r))) K=K r
 inv:∀ {h:Heap} {V:Nat→Prop} {x:D} {cs:List AV},P x→Dt h V x cs→∃ r,cs=c r
section
variable {tys:List CTy} {n:Nat} {c:aP tys→List AV} {z:List AV} {P:D→Prop}
theorem Rec.elt (R:Rec tys n c P) {h:Heap} {V:Nat→Prop} {s:SL} {xs:List D} (x:Sl h V s xs) {i:Nat} (hi:i<xs.length) (hP:P xs[i]):∃ r,h.cells (s.at i n) n=some (.agg (c r))∧Dt h V xs[i] (c r):=by
 obtain ⟨cs,e⟩:=x.elt hi;obtain ⟨r,rfl⟩:=R.inv hP e.dt;have hz:s.sz=n:=by rw [← e.len,R.len]
 have hw:=e.whole;rw [hz] at hw;exact ⟨r,hw,e.dt⟩
theorem Rec.cells (R:Rec tys n c P) {H:Heap} {A:Nat} {r:aP tys} (o:H.own A (c r)) {β:Type} (K:aP tys→Option β):iA (.val (.agg tys)) (H.cells (A,0) n) K=K r:=by
 have:H.cells (A,0) n=some (.agg (c r)):=by
  rw [o.cells (j:=0) (m:=n) (by rw [R.len];omega),List.drop_zero,List.take_of_length_le (by rw [R.len];exact Nat.le_refl _)]
 rw [this,R.agg]
theorem Rec.park (R:Rec tys n c P) (hz:z.length=n) (h:Heap) (r:aP tys):∃ h',(∀ {β:Type} (K:Heap→Option β),uA ((h.push (.row z .own)).store (h.next,0) (c r)) K=K h')∧Chg [] h h'∧h'.own h.next (c r):=by
 have o:=wA h z;have ch:=vA h (.row z .own);have hst:(h.push (.row z .own)).store (h.next,0) (c r)=some ((h.push (.row z .own)).put h.next (.row (c r) .own)):=o.store (by rw [R.len,hz]);exact ⟨_,fun K=>by rw [hst,bA],ch.put (.inr (Nat.le_refl _)) _,iB o _⟩
theorem pB2 (R:Rec tys n c P) (hz:z.length=n) {F:aP tys→aP tys→Heap→Option (Bool×Heap)} {L:Nat→SL→Unit→Bool→SL→Int→Int→Heap→Option (Out×zA1×Heap)} (hs:∀ M v1 v6 v15 v16 v17 h,L (M+1) v1 () v6 v15 v16 v17 h=pAr tys n c z F (L M) v1 v6 v15 v16 v17 h)
  {xs:List D} (hP:∀ x∈xs,P x) (hF:∀ x∈xs,∀ r1 r2 H V W,Dt H V x (c r1)→Dt H W x (c r2)→∃ H',F r1 r2 H=some (true,H')∧Chg [] H H') (hl:xs.length≤2000000) :
  ∀ (M i:Nat) (h:Heap) (V W:Nat→Prop) (s1 s2:SL),i≤xs.length→xs.length-i<M→Sl h V s1 xs→Sl h W s2 xs→∃ h',L M s2 () false s1 (xs.length:Int) (i:Int) h=some (.exit 0,(false,()),h')∧Chg [] h h':=by
 intro M
 induction M with
 | zero=>intro i _ _ _ _ _ _ h;omega
 | succ M ih=>
  intro i h V W s1 s2 hi hM x1 x2;rw [hs];unfold pAr;rw [pG]
  by_cases q:i<xs.length
  ·rw [decide_eq_true q,cond_true]
   have hm:=List.getElem_mem q;obtain ⟨r1,g1,d1⟩:=R.elt x1 q (hP _ hm);rw [x1.ix q n,g1,R.agg];obtain ⟨h6,p6,c6,o6⟩:=R.park hz h r1;rw [p6];have x2':=x2.chg c6 (by simp);obtain ⟨r2,g2,d2⟩:=R.elt x2' q (hP _ hm);rw [x2'.ix q n,g2,R.agg];obtain ⟨h10,p10,c10,o10⟩:=R.park hz h6 r2;rw [p10,R.cells (o6.chg c10 (by simp)),R.cells o10];obtain ⟨h14,e14,c14⟩:=hF _ hm r1 r2 h10 V W (Dt.chg (c6.trans c10) (by simp) d1) (Dt.chg c10 (by simp) d2);rw [e14,aA];simp only [Bool.not_true,cond_false];have c0:=(c6.trans c10).trans c14;rw [rB (by omega)];obtain ⟨h',e',c'⟩:=ih (i+1) h14 V W s1 s2 q (by omega) (x1.chg c0 (by simp)) (x2.chg c0 (by simp));exact ⟨h',e',c0.trans c'⟩
  ·rw [decide_eq_false q,cond_false]
   exact ⟨h,rfl,Chg.refl _ _⟩
theorem iAy {h:Heap} {V W:Nat→Prop} {s1 s2:SL} {xs:List D} (x1:Sl h V s1 xs) (x2:Sl h W s2 xs):pA (Int.ofNat s1.len) (Int.ofNat s2.len)=true:=by
 rw [x1.len,x2.len,eqI];simp
end
section
variable {N:Nat} {h:Heap} {V W:Nat→Prop}
theorem kAf {s1 s2:SL} {xs:List Bs} (x1:Sl h V s1 (xs.map D.s)) (x2:Sl h W s2 (xs.map D.s)) (hl:xs.length≤2000000):∀ (M i:Nat),i≤xs.length→xs.length-i<M→uA6 N M s1 s2 false (xs.length:Int) (i:Int) h=some (.exit 0,(false,()),h):=by
 intro M
 induction M with
 | zero=>intro i _ h;omega
 | succ M ih=>
  intro i hi hM;rw [mAb];unfold dA1;simp only [pG]
  by_cases q:i<xs.length
  ·simp only [q,decide_true,cond_true]
   have q':i<(xs.map D.s).length:=by rw [List.length_map];exact q
   rw [x1.ix q' 1,cAb x1 q];simp only [fA,mB];rw [x2.ix q' 1,cAb x2 q];simp only [fA,mB,eqB.2,Bool.not_true,cond_false];rw [rB (by omega)];exact ih (i+1) q (by omega)
  ·simp only [q,decide_false,cond_false]
theorem qAr {s1 s2:SL} {xs:List Bs} (x1:Sl h V s1 (xs.map D.s)) (x2:Sl h W s2 (xs.map D.s)) (hl:xs.length≤2000000) (hN:xs.length<N):f106 N s1 s2 h=some (true,h):=by
 unfold f106;simp only [iAy x1 x2,Bool.not_true,cond_false]
 have:=kAf (N:=N) x1 x2 hl N 0 (Nat.zero_le _) (by omega)
 have l1:s1.len=xs.length:=by rw [x1.len,List.length_map]
 rw [l1];rw [show ((0:Nat):Int)=0 from rfl] at this;rw [show Int.ofNat xs.length=(xs.length:Int) from rfl,this];rfl
theorem rAr {nm:Bs} {s1 s2:SL} {xs:List Bs} (x1:Sl h V s1 (xs.map D.s)) (x2:Sl h W s2 (xs.map D.s)) (hl:xs.length≤2000000) (hN:xs.length<N):∃ h',f164 N (nm,s1,()) (nm,s2,()) h=some (true,h')∧Chg [] h h':=by
 unfold f164;have o1:=wA h (lfc (nm,s1,()));have c1:=vA h (.row (lfc (nm,s1,())) .own);have e1:h.push (.row [(.str nm),(.slice s1.a s1.len s1.cap s1.sz)] .own)=h.push (.row (lfc (nm,s1,())) .own):=rfl;dsimp only;rw [e1];generalize h.push (.row (lfc (nm,s1,())) .own)=h1 at *;have o2:=wA h1 (lfc (nm,s2,()));have c2:=vA h1 (.row (lfc (nm,s2,())) .own);have e2:h1.push (.row [(.str nm),(.slice s2.a s2.len s2.cap s2.sz)] .own)=h1.push (.row (lfc (nm,s2,())) .own):=rfl;rw [e2];have o1:=o1.chg c2 (by simp);generalize h1.push (.row (lfc (nm,s2,())) .own)=h2 at *;have c02:=c1.trans c2;have a0:h2.cell (h.next,0)=some (.str nm):=o1.cell 0;have a1:h2.cell (h.next,1)=some (SL.av s1):=o1.cell 1;have b0:h2.cell (h1.next,0)=some (.str nm):=o2.cell 0;have b1:h2.cell (h1.next,1)=some (SL.av s2):=o2.cell 1;simp only [Nat.zero_add,a0,a1,b0,b1,fA,mB,eqB.2,cond_true,SL.av,qA];rw [qAr (x1.chg c02 (by simp)) (x2.chg c02 (by simp)) hl hN,aA];exact ⟨_,rfl,c02⟩
end
end Qp
end Go.Proofs.YtkcjphhjmlienaaGreatDoor

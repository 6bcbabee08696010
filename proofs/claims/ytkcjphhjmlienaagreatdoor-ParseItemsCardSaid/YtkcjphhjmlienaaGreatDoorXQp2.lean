import Derived.Test.YtkcjphhjmlienaaGreatDoorXQp1
import Derived.Test.YtkcjphhjmlienaaGreatDoorAi2
import Derived.Test.YtkcjphhjmlienaaGreatDoorRows
/- Functions of the program as plain functions, and what they come to; part 2. -/
namespace Go.Proofs.YtkcjphhjmlienaaGreatDoor
set_option linter.unusedVariables false
set_option linter.unusedSimpArgs false
set_option maxRecDepth 100000
open Go Ai Go.Proofs
namespace Qp
theorem tAm (N:Nat) (h:Heap):f233 N [] h=some ((0,AV.iface 256 (.int .i64 2),()),h):=rfl
theorem uAm {N:Nat} {h:Heap} (hp:Qw.pinned h=true):∃ v h',f220 N [] h=some ((0,v,()),h')∧Chg [] h h':=by
 unfold f220;rw [tAm,aA];have e:cK E .neq 29 (.tmp 11) (.const .nilIface) (AV.iface 256 (.int .i64 2)) AV.nilIface=some (.bool true):=by kernel_rfl
 simp only [e,fA,rB,cond_true];have ef:f234 N [65,116,111,105] [] 0 0 (AV.iface 256 (.int .i64 2)) h=some (AV.iface 259 (.ptr (some (h.next,0))),h.push (.row [.str [65,116,111,105],.str [],Qw.sen] .own)):=by
  unfold f234 Qw.pAc;rw [hp];rfl
 rw [ef,aA];exact ⟨_,_,rfl,qA _ _⟩
theorem lA6:∀ (t:Bs) (i:Nat) (hi:i<t.length),(ofBytes t)[i]? = some (.int .u8 ((t[i]).toNat:Int))
 | c::r,0,_=>rfl
 | c::r,i+1,hi=>by
  simp only [ofBytes,List.getElem?_cons_succ,List.getElem_cons_succ];exact lA6 r i (by simpa using hi)
theorem aAs {N:Nat} {t:Bs} {h:Heap} {A:Nat} (hA:h.t.get A=some (.row (ofBytes t) .grown)) (ht:t.all jD=true) (hl:t.length≤10) {v2:Int} {v3:AV} {v5:Bs} {cap:Nat}:∀ (M j v:Nat),j≤t.length→t.length-j<M→v<10 ^ j→
  nA8 N M v2 v3 v5 (v:Int) ⟨some (A,0),t.length,cap,1⟩ (Int.ofNat t.length) (j:Int) h=some (.exit 0,(v2,v3,v5,((aZ (t.drop j) v:Nat):Int),()),h):=by
 intro M
 induction M with
 | zero=>intro j _ _ h;omega
 | succ M ih=>
  intro j v hj hM hv;rw [qAc];unfold nA2;simp only [jU]
  by_cases q:j<t.length
  ·simp only [q,decide_true,cond_true]
   have hd:jD t[j]=true:=List.all_eq_true.1 ht _ (List.getElem_mem q);have hd':=hd;simp only [jD,decide_eq_true_eq] at hd';rw [show ((j:Nat):Int)=Int.ofNat j from rfl,vAi _ _ _ _ _ q];have hc:h.cell (A,0+j * 1)=some (.int .u8 ((t[j]).toNat:Int)):=by
    rw [Nat.zero_add,Nat.mul_one];have hg:jAv (h.g A)=some (ofBytes t):=by
     have:h.g A=some (.row (ofBytes t) .grown):=hA
     rw [this];rfl
    rw [Heap.cell_g,vA1,hg];simp only [Option.bind_some,List.head?_drop];exact lA6 t j q
   rw [hc];simp only [fA,bD];have w1:dB .u8 (((t[j]).toNat:Int)-48)=(((t[j]).toNat-48:Nat):Int):=by rw [u8_in (by omega) (by omega)];omega
   have z:wB 9 ((((t[j]).toNat-48:Nat)):Int)=false:=by
    have:=eF 9 ((t[j]).toNat-48)
    rw [show ((9:Nat):Int)=9 from rfl] at this;rw [this,decide_eq_false_iff_not];omega
   rw [w1];simp only [z,cond_false];have hp:(10:Nat) ^ j≤10 ^ 10:=Nat.pow_le_pow_right (by omega) (by omega);have w2:dB .i64 (dB .i64 ((v:Int) * 10)+dB .i64 (((t[j]).toNat-48:Nat):Int))=((v * 10+((t[j]).toNat-48):Nat):Int):=by
    rw [rF (x:=(v:Int) * 10) (by omega) (by omega),oK (by omega),rF (by omega) (by omega)];omega
   rw [w2,show Int.ofNat j=(j:Int) from rfl,dC (by omega),drop_cons q];simp only [aZ];exact ih (j+1) _ q (by omega) (by rw [Nat.pow_succ];omega)
  ·simp only [q,decide_false,cond_false]
   rw [show t.drop j=[] from List.drop_of_length_le (by omega)];rfl
theorem cAx {N:Nat} {t:Bs} {h:Heap} (hN:20≤N) (hk:nA4 t=true) (h0:0<t.length):∃ h',f220 N t h=some ((((aZ t 0:Nat):Int),AV.nilIface,()),h')∧Chg [] h h':=by
 have hl:t.length≤10:=by
  cases t with
  | nil=>simp at h0
  | cons c r=>
   by_cases q:10<(c::r).length
   ·rw [fAm q] at hk;cases hk
   ·omega
 have hall:t.all jD=true:=by
  simp only [nA4,Bool.and_eq_true] at hk;exact hk.1.1
 have hval:aZ t 0≤2147483647:=by
  simp only [nA4,Bool.and_eq_true,Nat.ble_eq] at hk;exact hk.1.2
 have hd:jD t[0]=true:=List.all_eq_true.1 hall _ (List.getElem_mem h0);have hd':=hd;simp only [jD,decide_eq_true_eq] at hd';unfold f220 f233;have z1:wB 0 (Int.ofNat t.length)=true:=by rw [ltI,decide_eq_true_eq];show (0:Int)<(t.length:Int);omega
 have z2:wB (Int.ofNat t.length) 19=true:=by rw [ltI,decide_eq_true_eq];show (t.length:Int)<19;omega
 have e0:∀ {β:Type} (K:Int→Option β),wK t 0 K=K ((t[0]).toNat:Int):=fun K=>oI h0 K;have z45:kB ((t[0]).toNat:Int) 45=false:=by rw [eqI,decide_eq_false_iff_not];omega
 have z43:kB ((t[0]).toNat:Int) 43=false:=by rw [eqI,decide_eq_false_iff_not];omega
 have hconv:wAd E 9 81 (.str t) h=some (.slice (some (h.next,0)) t.length t.length 1,h.push (.row (ofBytes t) .grown)):=by
  have u9:E.und 9=some .string:=iBf;have u81:∃ e,E.und 81=some (.slice e)∧E.und e=some (.int .u8):=by
   have:(match E.und 81 with | some (.slice e)=>(match E.und e with | some (.int .u8)=>true | _=>false) | _=>false)=true:=by kernel_rfl
   split at this
   ·rename_i e he
    split at this
    ·rename_i h8;exact ⟨e,he,h8⟩
    ·cases this
   ·cases this
  obtain ⟨e,h1,h2⟩:=u81;simp only [wAd,u9,h1,h2]
 simp only [z1,z2,cond_true,aA,dA,e0,z45,cond_false,z43,kC,pC,hconv,lG,uA];have hg:(h.push (.row (ofBytes t) .grown)).t.get h.next=some (.row (ofBytes t) .grown):=mH _ rfl;have lp:=aAs (N:=N) hg hall hl (v2:=0) (v3:=AV.nilIface) (v5:=t) (cap:=t.length) N 0 0 (Nat.zero_le _) (by omega) (by simp);rw [show ((0:Nat):Int)=0 from rfl,List.drop_zero] at lp;rw [lp];simp only [uB,wP,decide_true,cond_true,e0,z45,cond_false,aA,dA,kC,pC];have ne:cK E .neq 29 (.tmp 11) (.const .nilIface) AV.nilIface AV.nilIface=some (.bool false):=ne_nil 11;simp only [ne,fA,rB,cond_false];exact ⟨_,rfl,qA _ _⟩
end Qp
namespace Qp
structure PC (T:List Tok) (P:Nat) (X:List Nat) (h:Heap) (σ:St) (st:Int):Prop where
 pa:PA T P X h σ st
 pin:Qw.pinned h=true
 p4:4≤P
theorem vJ {h h':Heap} {M:List Nat} (c:Chg M h h') (hM:∀ A∈M,4≤A) (h4:4≤h.next) (hp:Qw.pinned h=true):Qw.pinned h'=true:=by
 unfold Qw.pinned Qx.pinned at hp ⊢;have e0:h'.t.get 0=h.t.get 0:=c.g 0 (by omega) (fun hm=>by have:=hM 0 hm;omega);have e2:h'.t.get 2=h.t.get 2:=c.g 2 (by omega) (fun hm=>by have:=hM 2 hm;omega);rw [c.pins,e0,e2];exact hp
section
variable {N:Nat} {T:List Tok} {P:Nat} {X X':List Nat} {h h':Heap} {σ σ':St} {st st':Int}
theorem PC.to (x:PC T P X h σ st) {M:List Nat} (c:Chg M h h') (hM:∀ A∈M,P≤A) (y:PA T P X' h' σ' st'):PC T P X' h' σ' st':=
 ⟨y,vJ c (fun A hA=>Nat.le_trans x.p4 (hM A hA)) (by have:=x.pa.P_lt;have:=x.p4;omega) x.pin,x.p4⟩
theorem PC.to1 (x:PC T P X h σ st) (c:Chg [P] h h') (y:PA T P X' h' σ' st'):PC T P X' h' σ' st':=x.to c (by simp) y
theorem PC.chg (x:PC T P X h σ st) (c:Chg [] h h'):PC T P X h' σ st:=x.to c (by simp) (x.pa.chg c)
theorem PC.chgM {M:List Nat} (x:PC T P X h σ st) (c:Chg M h h') (hM:∀ A∈M,A∈X):PC T P X h' σ st:=x.to c (fun A hA=>Nat.le_of_lt (x.pa.xl A (hM A hA)).1) (x.pa.chgM c hM)
theorem PC.chg1 {A:Nat} (x:PC T P X h σ st) (c:Chg [A] h h') (hA:A∈X):PC T P X h' σ st:=x.chgM c (by simpa using hA)
theorem PC.free {i:Nat} (x:PC T P X h (i,none) st) (hX:∀ A∈X',P<A∧A<h.next):PC T P X' h (i,none) st:=⟨x.pa.free hX,x.pin,x.p4⟩
theorem PC.sub (x:PC T P X h σ st) (hX:∀ A∈X',A∈X):PC T P X' h σ st:=⟨x.pa.sub hX,x.pin,x.p4⟩
theorem PC.add (x:PC T P X h σ st) (c:Chg [] h h') {A:Nat} (h1:h.next≤A) (h2:A<h'.next):PC T P (A::X) h' σ st:=x.to c (by simp) (x.pa.add c h1 h2)
theorem PC.P_lt (x:PC T P X h σ st):P<h.next:=x.pa.P_lt
theorem PC.lt (x:PC T P X h σ st):σ.1<T.length:=x.pa.lt
theorem uAj (x:PC T P X h σ st) {c:Int} (hc:c≠0):∃ h',f57 N (some (P,0)) c h=some ((),h')∧Chg [P] h h'∧PC T P X h' (jE T c σ) st:=by
 obtain ⟨h',e,c,y⟩:=mA2 (N:=N) x.pa hc;exact ⟨h',e,c,x.to1 c y⟩
theorem iI (hT:Toks T) (x:PC T P X h σ st) {w:Bs} (hw:lA2 w=false):∃ h',f92 N (some (P,0)) w h=some ((jB T w σ).1,h')∧Chg [P] h h'∧PC T P X h' (jB T w σ).2 st:=by
 obtain ⟨h',e,c,y⟩:=oAj (N:=N) hT x.pa hw;exact ⟨h',e,c,x.to1 c y⟩
theorem qI (hT:Toks T) (x:PC T P X h σ st) {w:Bs} (hw:isWord w=false):∃ h',f93 N (some (P,0)) w h=some ((jB T w σ).1,h')∧Chg [P] h h'∧PC T P X h' (jB T w σ).2 st:=by
 obtain ⟨h',e,c,y⟩:=fA6 (N:=N) hT x.pa hw;exact ⟨h',e,c,x.to1 c y⟩
theorem rU (hT:Toks T) (x:PC T P X h σ st) {k:Int} (hk:k≠0):∃ h',f94 N (some (P,0)) k h=some ((pB T k σ).1,h')∧Chg [P] h h'∧PC T P X h' (pB T k σ).2 st:=by
 obtain ⟨h',e,c,y⟩:=kAc (N:=N) hT x.pa hk;exact ⟨h',e,c,x.to1 c y⟩
theorem mAz (hT:Toks T) (x:PC T P X h σ st):∃ h',f95 N (some (P,0)) h=some ((wG T σ).1,h')∧Chg [P] h h'∧PC T P X h' (wG T σ).2 st:=by
 obtain ⟨h',e,c,y⟩:=dAz (N:=N) hT x.pa;exact ⟨h',e,c,x.to1 c y⟩
theorem gG (hT:Toks T) (x:PC T P X h σ st) {w:Bs} (hw:isWord w=false):∃ h',f149 N (some (P,0)) w h=some ((),h')∧Chg [P] h h'∧PC T P X h' (uC T w σ) st:=by
 obtain ⟨h',e,c,y⟩:=iAr (N:=N) hT x.pa hw;exact ⟨h',e,c,x.to1 c y⟩
theorem qA2 (x:PC T P X h σ st) (n:Nat):∃ h',f188 N (some (P,0)) (n:Int) h=some (((if 64≤n then jE T 5 σ else σ).2).isNone,h')∧Chg [P] h h'∧PC T P X h' (if 64≤n then jE T 5 σ else σ) st:=by
 obtain ⟨h',e,c,y⟩:=qAf (N:=N) x.pa n;exact ⟨h',e,c,x.to1 c y⟩
theorem iBb (hT:Toks T) (hN:100≤N) (x:PC T P X h σ st):∃ v h',f96 N (some (P,0)) h=some (v,h')∧PC T P X h' (pG T σ).2 st∧Chg [P] h h'∧Sl h' (fun C=>h.next≤C) v ((pG T σ).1.map D.s):=by
 obtain ⟨v,h',e,y,c,s⟩:=eAz (N:=N) hT hN x.pa;exact ⟨v,h',e,x.to1 c y,c,s⟩
theorem nAz (hT:Toks T) (hN:100≤N) (x:PC T P X h σ st):∃ r h',f55 N N (some (P,0)) 1 h=some (r,h')∧PC T P X h' (oH T 64 σ).2 st∧Chg [P] h h'∧Dt h' (fun C=>h.next≤C) (oH T 64 σ).1 (tyc r):=by
 obtain ⟨r,h',e,y,c,s⟩:=iAz (N:=N) hT hN 64 N h σ X (by omega) (by omega) x.pa;rw [show ((65-64:Nat):Int)=1 from rfl] at e;exact ⟨r,h',e,x.to1 c y,c,s⟩
end
theorem bAs {h0 H:Heap} {M:List Nat} {st e:TypeId} {n W:Nat} (ha:AppN E st e n W) (hn:0<n) {v:SL} {xs:List D} {d:D} {cs:List AV} (c:Chg M h0 H) (ow:Ow h0.next H v n xs) (hd:Dt H (fun C=>h0.next≤C∧v.blk≠some C) d cs) (hcs:cs.length=n) (hl:(xs.length+1) * W≤1073741824) :
  ∃ v' H',(∀ {β:Type} (K:SL→Heap→Option β),aE (.val zL2) (iB E st st (.slice v.a v.len v.cap v.sz) (.slice (some (H.next,0)) 1 1 n) (H.push (.row cs .own))) K=K v' H')∧Ow h0.next H' v' n (xs++[d])∧Chg v.blk.toList H H'∧(∀ A,v'.blk=some A→v.blk=some A∨H.next≤A):=by
 obtain ⟨v',H',e,o,c',hb⟩:=fU ha hn ow hd hcs c.next hl;exact ⟨v',H',fun K=>by rw [e];simp only [lG,uA],o,c',hb⟩
theorem cAs {h0 H:Heap} {M:List Nat} {st e:TypeId} {n W:Nat} (ha:AppN E st e n W) (hn:0<n) {O j:Nat} {cs0:List AV} {v:SL} {xs:List D} {d:D} {cs:List AV} (c:Chg M h0 H) (oO:H.own O cs0) (hj:cs0[j]? = some (SL.av v)) (ow:Ow h0.next H v n xs) (hO:O<h0.next) (hd:Dt H (fun C=>h0.next≤C∧v.blk≠some C) d cs) (hcs:cs.length=n) (hl:(xs.length+1) * W≤1073741824) :
  ∃ v' H',(∀ {β:Type} (K:Heap→Option β),(aE (.val zL2) (iB E st st (.slice v.a v.len v.cap v.sz) (.slice (some (H.next,0)) 1 1 n) (H.push (.row cs .own))) fun (x8:SL) h9=>rA (h9.store (O,j) [.slice x8.a x8.len x8.cap x8.sz]) K)=K H')∧H'.own O (cs0.set j (SL.av v'))∧Ow h0.next H' v' n (xs++[d])∧Chg (O::v.blk.toList) H H':=by
 obtain ⟨v',H',e,o,c',hb⟩:=bAs ha hn c ow hd hcs hl;have hge:∀ A∈v.blk.toList,h0.next≤A:=fun A hA=>(ow.ge A (by simpa using hA)).1;have oO':H'.own O cs0:=oO.chg c' (fun hm=>by have:=hge O hm;omega);have hjl:j<cs0.length:=(List.getElem?_eq_some_iff.1 hj).1;have hst:H'.store (O,j) [SL.av v']=some (H'.put O (.row (cs0.set j (SL.av v')) .own)):=oO'.store1 hjl _;have cp:=oO'.put (cs0.set j (SL.av v'));refine ⟨v',_,fun K=>?_,yA oO' _,o.chg cp (by intro A hA;rw [List.mem_singleton] at hA;omega),(c'.mono (fun A hA=>List.mem_cons_of_mem _ hA)).trans (cp.mono (by simp))⟩;rw [e];show rA (H'.store (O,j) [SL.av v']) K=_;rw [hst,dA]
noncomputable def eN (N:Nat) (P:zJ2) (sep:Bs) (F:Heap→Option (Unit×Heap)):Nat→Int→Heap→Option (Out×Unit×Heap)
 | 0,_,_=>none
 | M+1,n,h=>(lA (f188 N P n h) fun (x1:Bool) h2=>
  (bif x1 then
   (lA (F h2) fun (x3:Unit) h4=>
   (lA (f93 N P sep h4) fun (x5:Bool) h6=>
   (bif !x5 then
   some (Out.ret,(),h6)
   else
   eN N P sep F M (dB .i64 (n+1)) h6)))
  else
   some (Out.exit 0,(),h2)))
def yG (T:List Tok) (one:St→D×St) (sep:Bs):Nat→St→List D×St
 | 0,σ=>([],jE T 5 σ)
 | g+1,σ=>let a:=one σ;let b:=jB T sep a.2;if b.1=true then ((a.1::(yG T one sep g b.2).1),(yG T one sep g b.2).2) else ([a.1],b.2)
theorem dAx {N:Nat} {T:List Tok} {P:Nat} {X:List Nat} {st:Int} (hT:Toks T) {F:Heap→Option (Unit×Heap)} {one:St→D×St} {Inv:Heap→List D→St→Prop}
  (hPC:∀ h xs σ,Inv h xs σ→PC T P X h σ st)
  (hstep:∀ h h' xs σ σ',Inv h xs σ→Chg [P] h h'→PC T P X h' σ' st→Inv h' xs σ')
  (hone:∀ h xs i,Inv h xs (i,none)→xs.length≤64→∃ h',F h=some ((),h')∧Inv h' (xs++[(one (i,none)).1]) (one (i,none)).2)
  {sep:Bs} (hsep:isWord sep=false):∀ (g M i:Nat) (h:Heap) (xs:List D),g<M→g≤64→xs.length≤64-g→Inv h xs (i,none)→
  ∃ o h',eN N (some (P,0)) sep F M ((64-g:Nat):Int) h=some (o,(),h')∧Inv h' (xs++(yG T one sep g (i,none)).1) (yG T one sep g (i,none)).2:=by
 intro g
 induction g with
 | zero=>
  intro M i h xs hM hg hx x;obtain ⟨M,rfl⟩:∃ m,M=m+1:=⟨M-1,by omega⟩;obtain ⟨h2,e2,c2,x2⟩:=qA2 (N:=N) (hPC _ _ _ x) (64-0);simp only [eN];rw [e2,aA];simp only [show 64≤64-0 by omega,if_true,jE,Option.isNone_some,cond_false] at x2 ⊢;refine ⟨_,h2,rfl,?_⟩;simp only [yG,List.append_nil];exact hstep _ _ _ _ _ x c2 x2
 | succ g ih=>
  intro M i h xs hM hg hx x;obtain ⟨M,rfl⟩:∃ m,M=m+1:=⟨M-1,by omega⟩;obtain ⟨h2,e2,c2,x2⟩:=qA2 (N:=N) (hPC _ _ _ x) (64-(g+1));simp only [eN];rw [e2,aA];have z:¬ 64≤64-(g+1):=by omega
  simp only [z,if_false,Option.isNone_none,cond_true] at x2 ⊢;obtain ⟨h4,e4,x4⟩:=hone _ _ _ (hstep _ _ _ _ _ x c2 x2) (by omega);rw [e4,aA];obtain ⟨h6,e6,c6,x6⟩:=qI (N:=N) hT (hPC _ _ _ x4) (w:=sep) hsep;rw [e6,aA];have x6':=hstep _ _ _ _ _ x4 c6 x6;simp only [yG]
  cases hb:(jB T sep (one (i,none)).2).1 with
  | false=>
   simp only [Bool.not_false,cond_true,Bool.false_eq_true,if_false];exact ⟨_,h6,rfl,x6'⟩
  | true=>
   simp only [Bool.not_true,cond_false,if_true];have hs:=(nH hb).1;rw [hs] at x6' ⊢;rw [dC (by omega),show 64-(g+1)+1=64-g by omega]
   have:=ih M _ h6 (xs++[(one (i,none)).1]) (by omega) (by omega) (by simp;omega) x6'
   simpa only [List.append_assoc,List.singleton_append] using this
def iD (T:List Tok) (one:St→D×St) (sep:Bs) (σ:St):List D×St:=match σ.2 with
 | none=>yG T one sep 64 σ
 | some _=>([],σ)
theorem fQ {N:Nat} {T:List Tok} {P:Nat} {X:List Nat} {st:Int} (hT:Toks T) (hN:100≤N) {F:Heap→Option (Unit×Heap)} {one:St→D×St} {Inv:Heap→List D→St→Prop}
  (hPC:∀ h xs σ,Inv h xs σ→PC T P X h σ st)
  (hstep:∀ h h' xs σ σ',Inv h xs σ→Chg [P] h h'→PC T P X h' σ' st→Inv h' xs σ')
  (hone:∀ h xs i,Inv h xs (i,none)→xs.length≤64→∃ h',F h=some ((),h')∧Inv h' (xs++[(one (i,none)).1]) (one (i,none)).2)
  {sep:Bs} (hsep:isWord sep=false) {σ:St} {h:Heap} (x:Inv h [] σ) :
  ∃ o h',eN N (some (P,0)) sep F N 0 h=some (o,(),h')∧Inv h' (iD T one sep σ).1 (iD T one sep σ).2:=by
 obtain ⟨i,e⟩:=σ
 cases e with
 | none=>
  obtain ⟨o,h',e,y⟩:=dAx (N:=N) hT hPC hstep hone hsep 64 N i h [] (by omega) (Nat.le_refl _) (by simp) x;rw [show ((64-64:Nat):Int)=0 from rfl] at e;rw [List.nil_append] at y;exact ⟨o,h',e,y⟩
 | some q=>
  obtain ⟨M,rfl⟩:∃ m,N=m+1:=⟨N-1,by omega⟩;obtain ⟨h2,e2,c2,x2⟩:=qA2 (N:=M+1) (hPC _ _ _ x) 0;rw [show ((0:Nat):Int)=0 from rfl] at e2;simp only [eN];rw [e2,aA];simp only [show ¬ 64≤0 by omega,if_false,Option.isNone_some,cond_false] at x2 ⊢;exact ⟨_,h2,rfl,hstep _ _ _ _ _ x c2 x2⟩
end Qp
namespace Qp
theorem fD {h:Heap} {A j:Nat} {cs vs cs':List AV} (x:h.own A cs) (ho:over j cs vs=some cs'):h.store (A,j) vs=some (h.put A (.row cs' .own)):=by
 rw [Heap.store_g,x.1,pW,ho];rfl
abbrev FdV:=Bool×zQ2×Int×zQ2×SL×SL×Unit
def fdc (x:FdV):List AV:=[.bool x.1,.str x.2.1,.int .i64 x.2.2.1,.str x.2.2.2.1,SL.av x.2.2.2.2.1,SL.av x.2.2.2.2.2.1]
abbrev fd0:FdV:=(false,[],0,[],sl0,sl0,())
def mS (m:Bool) (nm:Bs) (r:TyV):FdV:=(m,nm,r.1,r.2.1,r.2.2.1,r.2.2.2.1,())
theorem aBh {β:Type} (r:FdV) (K:FdV→Option β):iA (.val zI) (some (.agg (fdc r))) K=K r:=by
 obtain ⟨m,n,k,x,s1,s2,_⟩:=r;simp [fdc,SL.av]
theorem vAj {H:Heap} {A:Nat} {r:FdV} (o:H.own A (fdc r)) {β:Type} (K:FdV→Option β):iA (.val zI) (H.cells (A,0) 6) K=K r:=by
 have:H.cells (A,0) 6=some (.agg (fdc r)):=o.cells (j:=0) (m:=6) (Nat.le_refl _)
 rw [this,aBh]
theorem dAs {H:Heap} {A:Nat} {r0:FdV} (o:H.own A (fdc r0)) (r:FdV):H.store (A,0) [.bool r.1,.str r.2.1,.int .i64 r.2.2.1,.str r.2.2.2.1,.slice r.2.2.2.2.1.a r.2.2.2.2.1.len r.2.2.2.2.1.cap r.2.2.2.2.1.sz,.slice r.2.2.2.2.2.1.a r.2.2.2.2.2.1.len r.2.2.2.2.2.1.cap r.2.2.2.2.2.1.sz]=some (H.put A (.row (fdc r) .own)):=o.store rfl
theorem mBj {H:Heap} {A:Nat} {r0:FdV} (o:H.own A (fdc r0)) (r:FdV) {β:Type} (K:FdV→Heap→Option β) :
  (rA (H.store (A,0) [.bool r.1,.str r.2.1,.int .i64 r.2.2.1,.str r.2.2.2.1,.slice r.2.2.2.2.1.a r.2.2.2.2.1.len r.2.2.2.2.1.cap r.2.2.2.2.1.sz,.slice r.2.2.2.2.2.1.a r.2.2.2.2.2.1.len r.2.2.2.2.2.1.cap r.2.2.2.2.2.1.sz]) fun h7=>iA (.val zI) (h7.cells (A,0) 6) fun x8=>K x8 h7)=K r (H.put A (.row (fdc r) .own)):=by
 rw [dAs o,dA,vAj (yA o _)]
def fdD (m:Bool) (nm:Bs) (ty:D):D:=.t [.b m,.s nm,ty]
theorem oAz (h:Heap) (V:Nat→Prop) (x:Bool):Dt h V (.b x) [.bool x]:=by simp only [Dt]
theorem wAj (h:Heap) (V:Nat→Prop) (x:Int):Dt h V (.i x) [.int .i64 x]:=by simp only [Dt]
theorem lY (h:Heap) (V:Nat→Prop):Dp h V [] []:=by simp only [Dp]
theorem jC {h:Heap} {V:Nat→Prop} {d:D} {r:List D} {a b:List AV} (x:Dt h V d a) (y:Dp h V r b):Dp h V (d::r) (a++b):=by
 simp only [Dp];exact ⟨a,b,rfl,x,y⟩
theorem kAv {h:Heap} {V:Nat→Prop} {ds:List D} {cs:List AV} (x:Dp h V ds cs):Dt h V (.t ds) cs:=by simp only [Dt];exact x
theorem uB3 {h:Heap} {V:Nat→Prop} {m:Bool} {nm:Bs} {ty:D} {r:TyV} (x:Dt h V ty (tyc r)):Dt h V (fdD m nm ty) (fdc (mS m nm r)):=
 kAv (jC (a:=[_]) (oAz h V m) (jC (a:=[_]) (uJ h V nm) (jC (a:=tyc r) (b:=[]) x (lY h V))))
def bF (T:List Tok) (σ:St):D×St:=
 let a:=pB T 1 σ
 let r:=oH T 64 (uC T [58] a.2)
 (fdD false a.1 r.1,r.2)
section
variable {N:Nat} {T:List Tok} {P:Nat} {X:List Nat} {st:Int} {h:Heap} {σ:St}
theorem eAg (hT:Toks T) (hN:100≤N) (x:PC T P X h σ st):∃ r h',f154 N (some (P,0)) h=some (r,h')∧PC T P X h' (bF T σ).2 st∧Chg [P] h h'∧Dt h' (fun C=>h.next≤C) (bF T σ).1 (fdc r)∧∃ nm t,r=mS false nm t∧(bF T σ).1=fdD false nm (oH T 64 (uC T [58] (pB T 1 σ).2)).1∧Dt h' (fun C=>h.next≤C) (oH T 64 (uC T [58] (pB T 1 σ).2)).1 (tyc t):=by
 unfold f154;have hP:=x.P_lt;have o1:=vA h (fdc fd0);have c1:=qA h (.row (fdc fd0) .own);have x1:=x.add c1 (A:=h.next) (Nat.le_refl _) (Nat.lt_succ_self _);have e1:h.push (.row [(.bool false),(.str []),(.int .i64 0),(.str []),(.slice none 0 0 0),(.slice none 0 0 0)] .own)=h.push (.row (fdc fd0) .own):=rfl;rw [e1];have n1:(h.push (.row (fdc fd0) .own)).next=h.next+1:=rfl;generalize h.push (.row (fdc fd0) .own)=h1 at *;dsimp only;obtain ⟨h3,e3,c3,x3⟩:=rU (N:=N) hT x1 (k:=1) (by decide);rw [e3,aA];have o3:=o1.chg c3 (by simp;omega);have hn3:=c3.next;have oA0:=vA h3 (fdc fd0);have cA0:=qA h3 (.row (fdc fd0) .own);have eA:h3.push (.row [(.bool false),(.str []),(.int .i64 0),(.str []),(.slice none 0 0 0),(.slice none 0 0 0)] .own)=h3.push (.row (fdc fd0) .own):=rfl;generalize hnm:(pB T 1 σ).1=nm at *;have hstA:(h3.push (.row (fdc fd0) .own)).store (h3.next,0) [(.bool false),(.str nm),(.int .i64 0),(.str []),(.slice none 0 0 0),(.slice none 0 0 0)]=some ((h3.push (.row (fdc fd0) .own)).put h3.next (.row (fdc (mS false nm (0,[],sl0,sl0,()))) .own)):=oA0.store rfl;rw [eA,hstA,dA];have oA:=yA oA0 (fdc (mS false nm (0,[],sl0,sl0,())));have cA:Chg [] h3 ((h3.push (.row (fdc fd0) .own)).put h3.next (.row (fdc (mS false nm (0,[],sl0,sl0,()))) .own)):=cA0.put (.inr (Nat.le_refl _)) _;have nA:((h3.push (.row (fdc fd0) .own)).put h3.next (.row (fdc (mS false nm (0,[],sl0,sl0,()))) .own)).next=h3.next+1:=rfl;have x5:=x3.add cA (A:=h3.next) (Nat.le_refl _) (Nat.lt_succ_self _);have oR:=o3.chg cA (by simp);generalize (h3.push (.row (fdc fd0) .own)).put h3.next (.row (fdc (mS false nm (0,[],sl0,sl0,()))) .own)=h5 at *;obtain ⟨h7,e7,c7,x7⟩:=gG (N:=N) hT x5 (w:=[58]) (by decide);rw [e7,aA];obtain ⟨r8,h9,e9,x9,c9,d9⟩:=nAz (N:=N) hT hN x7;rw [e9,aA];have c79:=c7.trans c9;have oA9:=oA.chg c79 (by simp;omega);have oR9:=oR.chg c79 (by simp;omega);have hst:h9.store (h3.next,2) [.int .i64 r8.1,.str r8.2.1,.slice r8.2.2.1.a r8.2.2.1.len r8.2.2.1.cap r8.2.2.1.sz,.slice r8.2.2.2.1.a r8.2.2.2.1.len r8.2.2.2.1.cap r8.2.2.2.1.sz]=some (h9.put h3.next (.row (fdc (mS false nm r8)) .own)):=fD oA9 rfl;simp only [Nat.zero_add];rw [hst,dA];have cB:=oA9.put (fdc (mS false nm r8));have oA10:=yA oA9 (fdc (mS false nm r8));have oR10:=oR9.chg cB (by simp;omega);have x10:=x9.chg1 cB (by simp);have hn7:=c7.next;have d10:=d9.chg cB (fun C hC=>by simp;omega);have hn9:=c9.next;generalize h9.put h3.next (.row (fdc (mS false nm r8)) .own)=h10 at *;rw [vAj oA10];have cR:=oR10.put (fdc (mS false nm r8));have cAll:Chg [P] h h10:=by
  have a1:Chg [P] h h5:=((c1.mono (by simp)).trans c3).trans (cA.mono (by simp));exact (a1.trans c79).step cB (fun A hA hl=>by rw [List.mem_singleton] at hA;omega)
 have d11:=(d10.chg cR (fun C hC=>by simp;omega)).weak (W:=fun C=>h.next≤C) (fun C hC _=>by omega);simp only [bF,hnm];exact ⟨mS false nm r8,_,mBj oR10 (mS false nm r8) (fun x h=>some (x,h)),(x10.chg1 cR (by simp)).sub (by simp +contextual),cAll.put (.inr (Nat.le_refl _)) _,uB3 d11,nm,r8,rfl,rfl,d11⟩
end
end Qp
namespace Qp
structure CF (P:Nat) (X:List Nat) (h0:Heap) (O Q n j:Nat) (row:SL→List AV):Prop where
 o:P<O∧O<h0.next
 q:Q≠P∧Q≠O∧Q<h0.next
 x:O∈X
 rj:∀ v,(row v)[j]? = some (SL.av v)
 rs:∀ v v',(row v).set j (SL.av v')=row v'
structure CI (T:List Tok) (P:Nat) (X:List Nat) (st:Int) (h0:Heap) (O Q n:Nat) (row:SL→List AV) (h:Heap) (xs:List D) (σ:St):Prop where
 pc:PC T P X h σ st
 chg:Chg [P,O] h0 h
 q:h.own Q [.ptr (some (P,0))]
 ex:∃ v,h.own O (row v)∧Ow h0.next h v n xs
section
variable {T:List Tok} {P:Nat} {X:List Nat} {st:Int} {h0 h h' h6:Heap} {O Q n j:Nat} {row:SL→List AV} {xs:List D} {σ σ':St}
theorem CI.step (f:CF P X h0 O Q n j row) (x:CI T P X st h0 O Q n row h xs σ) (c:Chg [P] h h') (y:PC T P X h' σ' st):CI T P X st h0 O Q n row h' xs σ':=by
 obtain ⟨v,o1,w1⟩:=x.ex
 have:=f.o;have:=f.q
 exact ⟨y,x.chg.trans (c.mono (by simp)),x.q.chg c (by simp;omega),v,o1.chg c (by simp;omega),w1.chg c (by intro A hA;rw [List.mem_singleton] at hA;omega)⟩
theorem CI.open {i:Nat} (f:CF P X h0 O Q n j row) (x:CI T P X st h0 O Q n row h xs (i,none)):∃ v,h.own O (row v)∧Ow h0.next h v n xs∧PC T P (v.blk.toList++X) h (i,none) st∧h.cell (O,j)=some (.slice v.a v.len v.cap v.sz)∧h.cell (Q,0)=some (.ptr (some (P,0))):=by
 obtain ⟨v,o1,w1⟩:=x.ex
 have:=f.o
 refine ⟨v,o1,w1,x.pc.free fun A hA=>?_,by rw [o1.cell j,f.rj v];rfl,x.q.cell 0⟩;rcases List.mem_append.1 hA with hA | hA
 ·have:=w1.ge A (by simpa using hA);omega
 ·exact x.pc.pa.xl A hA
theorem CI.close {i:Nat} (f:CF P X h0 O Q n j row) (x:CI T P X st h0 O Q n row h xs (i,none)) {v:SL} (o1:h.own O (row v)) (w1:Ow h0.next h v n xs) {t e:TypeId} {W:Nat} (ha:AppN E t e n W) (hn:0<n) (hW:W≤10000000) (hl:xs.length≤64) (c:Chg [P] h h6) (y:PC T P (v.blk.toList++X) h6 σ' st) {d:D} {cs:List AV} (hd:Dt h6 (fun C=>h.next≤C) d cs) (hcs:cs.length=n) :
  ∃ H',(∀ {β:Type} (K:Heap→Option β),(aE (.val zL2) (iB E t t (.slice v.a v.len v.cap v.sz) (.slice (some (h6.next,0)) 1 1 n) (h6.push (.row cs .own))) fun (x8:SL) h9=>rA (h9.store (O,j) [.slice x8.a x8.len x8.cap x8.sz]) K)=K H')∧CI T P X st h0 O Q n row H' (xs++[d]) σ'∧h6.cell (O,j)=some (.slice v.a v.len v.cap v.sz)∧(h6.push (.row cs .own)).cell (O,j)=some (.slice v.a v.len v.cap v.sz):=by
 have hO:=f.o;have hQ:=f.q;have hlt:∀ A,v.blk=some A→h0.next≤A∧A<h.next:=w1.ge;have c06:Chg [P,O] h0 h6:=x.chg.trans (c.mono (by simp));have o6:h6.own O (row v):=o1.chg c (by simp;omega);have w6:Ow h0.next h6 v n xs:=w1.chg c (by intro A hA;rw [List.mem_singleton] at hA;omega);have hn0:=x.chg.next;have hd6:Dt h6 (fun C=>h0.next≤C∧v.blk≠some C) d cs:=hd.weak fun C hC _=>⟨by omega,fun e=>by have:=hlt C e;omega⟩;have hll:(xs.length+1) * W≤1073741824:=by
  have:(xs.length+1) * W≤65 * 10000000:=Nat.mul_le_mul (by omega) hW
  omega
 obtain ⟨v',H',e',o',w',c'⟩:=cAs ha hn c06 o6 (f.rj v) w6 hO.2 hd6 hcs hll;have hM:∀ A∈O::v.blk.toList,P<A∧A∈v.blk.toList++X:=fun A hA=>by
  rcases List.mem_cons.1 hA with rfl | hA
  ·exact ⟨hO.1,List.mem_append_right _ f.x⟩
  ·exact ⟨by have:=hlt A (by simpa using hA);omega,List.mem_append_left _ hA⟩
 have y':=y.chgM c' fun A hA=>(hM A hA).2;refine ⟨H',e',⟨y'.sub fun A hA=>List.mem_append_right _ hA,c06.step c' fun A hA hlt'=>?_,(x.q.chg c (by simp;omega)).chg c' fun hm=>?_,v',by rw [← f.rs v v'];exact o',w'⟩,by rw [o6.cell j,f.rj v];rfl,by rw [(o6.chg (qA h6 _) (by simp)).cell j,f.rj v];rfl⟩
 ·rcases List.mem_cons.1 hA with rfl | hA
  ·simp
  ·have:=hlt A (by simpa using hA);omega
 ·rcases List.mem_cons.1 hm with e | hm
  ·exact hQ.2.1 e
  ·have:=hlt Q (by simpa using hm);omega
end
abbrev StV:=Bool×zQ2×SL×SL×Int×Unit
def stc (x:StV):List AV:=[.bool x.1,.str x.2.1,SL.av x.2.2.1,SL.av x.2.2.2.1,.int .i64 x.2.2.2.2.1]
abbrev st0:StV:=(false,[],sl0,sl0,0,())
theorem bBh {β:Type} (r:StV) (K:StV→Option β):iA (.val zG) (some (.agg (stc r))) K=K r:=by
 obtain ⟨m,n,s1,s2,k,_⟩:=r;simp [stc,SL.av]
theorem tAc {H:Heap} {A:Nat} {r:StV} (o:H.own A (stc r)) {β:Type} (K:StV→Option β):iA (.val zG) (H.cells (A,0) 5) K=K r:=by
 have:H.cells (A,0) 5=some (.agg (stc r)):=o.cells (j:=0) (m:=5) (Nat.le_refl _)
 rw [this,bBh]
theorem bBj {H:Heap} {A:Nat} {r0:StV} (o:H.own A (stc r0)) (r:StV) {β:Type} (K:StV→Heap→Option β) :
  (rA (H.store (A,0) [.bool r.1,.str r.2.1,.slice r.2.2.1.a r.2.2.1.len r.2.2.1.cap r.2.2.1.sz,.slice r.2.2.2.1.a r.2.2.2.1.len r.2.2.2.1.cap r.2.2.2.1.sz,.int .i64 r.2.2.2.2.1]) fun h7=>iA (.val zG) (h7.cells (A,0) 5) fun x8=>K x8 h7)=K r (H.put A (.row (stc r) .own)):=by
 have:H.store (A,0) [.bool r.1,.str r.2.1,.slice r.2.2.1.a r.2.2.1.len r.2.2.1.cap r.2.2.1.sz,.slice r.2.2.2.1.a r.2.2.2.1.len r.2.2.2.1.cap r.2.2.2.1.sz,.int .i64 r.2.2.2.2.1]=some (H.put A (.row (stc r) .own)):=o.store rfl
 rw [this,dA,tAc (yA o _)]
def qA8 (pub:Bool) (nm:Bs) (lv:List Bs) (fs:List D) (at_:Int):D:=.t [.b pub,.s nm,.l (lv.map D.s),.l fs,.i at_]
theorem rA8 {h:Heap} {V:Nat→Prop} {pub:Bool} {nm:Bs} {lv:List Bs} {fs:List D} {at_:Int} {s1 s2:SL} (x:Sl h V s1 (lv.map D.s)) (y:Sl h V s2 fs):Dt h V (qA8 pub nm lv fs at_) (stc (pub,nm,s1,s2,at_,())):=
 kAv (jC (a:=[_]) (oAz h V pub) (jC (a:=[_]) (uJ h V nm) (jC (a:=[_]) (aM.2 x) (jC (a:=[_]) (aM.2 y) (jC (a:=[_]) (b:=[]) (wAj h V at_) (lY h V))))))
def pD (T:List Tok) (pub:Bool) (at_:Int) (σ:St):D×St:=
 let a:=pB T 1 σ
 let l:=pG T a.2
 let b:=jB T [125] (uC T [123] l.2)
 if b.1=true then (qA8 pub a.1 l.1 [] at_,b.2)
 else let fs:=iD T (bF T) [44] b.2;(qA8 pub a.1 l.1 fs.1 at_,uC T [125] fs.2)
theorem vB3:AppN E 37 140 6 1000:=AppN.of (by kernel_rfl)
section
variable {N:Nat} {T:List Tok} {P:Nat} {X:List Nat} {st:Int} {h:Heap} {σ:St}
theorem fR (P:zJ2) (sep:Bs) (O Q:zJ2):∀ (M:Nat) (n:Int) (h:Heap),fM N M P sep (O,Q,()) n h=eN N P sep (fun h=>f153 N O Q h) M n h
 | 0,n,h=>rfl
 | M+1,n,h=>by
  rw [bZ];unfold eM;simp only [eN];simp only [fR P sep O Q M]
theorem wB3 (hT:Toks T) (hN:100≤N) {h0:Heap} {O Q:Nat} {row:SL→List AV} (f:CF P X h0 O Q 6 3 row) {xs:List D} {i:Nat} (x:CI T P X st h0 O Q 6 row h xs (i,none)) (hl:xs.length≤64):∃ h',f153 N (some (O,0)) (some (Q,0)) h=some ((),h')∧CI T P X st h0 O Q 6 row h' (xs++[(bF T (i,none)).1]) (bF T (i,none)).2:=by
 unfold f153;obtain ⟨v,o1,w1,y,r1,r2⟩:=x.open f;obtain ⟨r,h6,e6,x6,c6,d6,_⟩:=eAg (N:=N) hT hN y;obtain ⟨H',eK,ci,g1,g2⟩:=x.close f o1 w1 vB3 (by decide) (by decide) hl c6 x6 d6 rfl;simp only [dA,Nat.zero_add,r1,r2,fA,uA,qB];rw [e6,aA];have g2':(h6.push (.row [(.bool r.1),(.str r.2.1),(.int .i64 r.2.2.1),(.str r.2.2.2.1),(.slice r.2.2.2.2.1.a r.2.2.2.2.1.len r.2.2.2.2.1.cap r.2.2.2.2.1.sz),(.slice r.2.2.2.2.2.1.a r.2.2.2.2.2.1.len r.2.2.2.2.2.1.cap r.2.2.2.2.2.1.sz)] .own)).cell (O,3)=some (.slice v.a v.len v.cap v.sz):=g2;simp only [fF,r2,g2',g1,r1,wC,cond_true,aC];exact ⟨H',eK _,ci⟩
theorem fAg (hT:Toks T) (hN:100≤N) {h0:Heap} {O Q:Nat} {row:SL→List AV} (f:CF P X h0 O Q 6 3 row) (x:CI T P X st h0 O Q 6 row h0 [] σ):∃ h',rZ N (some (P,0)) [44] ((some (O,0)),(some (Q,0)),()) h0=some ((),h')∧CI T P X st h0 O Q 6 row h' (iD T (bF T) [44] σ).1 (iD T (bF T) [44] σ).2:=by
 unfold rZ;obtain ⟨o,h',e,y⟩:=fQ (N:=N) hT hN (F:=fun h=>f153 N (some (O,0)) (some (Q,0)) h) (one:=bF T) (Inv:=CI T P X st h0 O Q 6 row) (fun h xs σ c=>c.pc) (fun h h' xs σ σ' c d z=>c.step f d z) (fun h xs i c hl=>wB3 hT hN f c hl) (sep:=[44]) (by decide) x;simp only [fR];rw [e];simp only [uB];cases gE o (.exit 0) <;> exact ⟨h',rfl,y⟩
theorem yB3 (hT:Toks T) (hN:100≤N) (x:PC T P X h σ st) (pub:Bool) (at_:Int):∃ r h',f102 N (some (P,0)) pub at_ h=some (r,h')∧PC T P X h' (pD T pub at_ σ).2 st∧Chg [P] h h'∧Dt h' (fun C=>h.next≤C) (pD T pub at_ σ).1 (stc r):=by
 unfold f102;have hP:=x.P_lt;have oQ:=vA h [AV.ptr (some (P,0))];have cQ:=qA h (.row [AV.ptr (some (P,0))] .own);have nQ:(h.push (.row [AV.ptr (some (P,0))] .own)).next=h.next+1:=rfl;dsimp only;generalize h.push (.row [AV.ptr (some (P,0))] .own)=h1 at *;have oR:=vA h1 (stc st0);have cR:=qA h1 (.row (stc st0) .own);have eR:h1.push (.row [(.bool false),(.str []),(.slice none 0 0 0),(.slice none 0 0 0),(.int .i64 0)] .own)=h1.push (.row (stc st0) .own):=rfl;have nR:(h1.push (.row (stc st0) .own)).next=h1.next+1:=rfl;have x2:=(x.chg cQ).add cR (A:=h1.next) (Nat.le_refl _) (Nat.lt_succ_self _);rw [eR];generalize h1.push (.row (stc st0) .own)=h2 at *;have oQ2:=oQ.chg cR (by simp);have c02:=cQ.trans cR;have r2:h2.cell (h.next,0)=some (.ptr (some (P,0))):=oQ2.cell 0;simp only [r2,fA,qB];obtain ⟨h5,e5,c5,x5⟩:=rU (N:=N) hT x2 (k:=1) (by decide);rw [e5,aA];have oQ5:=oQ2.chg c5 (by simp;omega);have oR5:=oR.chg c5 (by simp;omega);have hn5:=c5.next;generalize hnm:(pB T 1 σ).1=nm at *;have oO0:=vA h5 (stc st0);have cO0:=qA h5 (.row (stc st0) .own);have eO:h5.push (.row [(.bool false),(.str []),(.slice none 0 0 0),(.slice none 0 0 0),(.int .i64 0)] .own)=h5.push (.row (stc st0) .own):=rfl;have hstO:(h5.push (.row (stc st0) .own)).store (h5.next,0) [(.bool pub),(.str nm),(.slice none 0 0 0),(.slice none 0 0 0),(.int .i64 at_)]=some ((h5.push (.row (stc st0) .own)).put h5.next (.row (stc (pub,nm,sl0,sl0,at_,())) .own)):=oO0.store rfl;rw [eO,hstO,dA];have oO:=yA oO0 (stc (pub,nm,sl0,sl0,at_,()));have cO:Chg [] h5 ((h5.push (.row (stc st0) .own)).put h5.next (.row (stc (pub,nm,sl0,sl0,at_,())) .own)):=cO0.put (.inr (Nat.le_refl _)) _;have nO:((h5.push (.row (stc st0) .own)).put h5.next (.row (stc (pub,nm,sl0,sl0,at_,())) .own)).next=h5.next+1:=rfl;have x7:=x5.add cO (A:=h5.next) (Nat.le_refl _) (Nat.lt_succ_self _);have oQ7:=oQ5.chg cO (by simp);have oR7:=oR5.chg cO (by simp);generalize (h5.push (.row (stc st0) .own)).put h5.next (.row (stc (pub,nm,sl0,sl0,at_,())) .own)=h7 at *;have r7:h7.cell (h.next,0)=some (.ptr (some (P,0))):=oQ7.cell 0;simp only [r7,fA,qB];obtain ⟨s9,h10,e10,x10,c10,sl10⟩:=iBb (N:=N) hT hN x7;rw [e10,aA];have oQ10:=oQ7.chg c10 (by simp;omega);have oR10:=oR7.chg c10 (by simp;omega);have oO10:=oO.chg c10 (by simp;omega);have hn10:=c10.next;have hst:h10.store (h5.next,2) [.slice s9.a s9.len s9.cap s9.sz]=some (h10.put h5.next (.row (stc (pub,nm,s9,sl0,at_,())) .own)):=fD oO10 rfl;simp only [Nat.zero_add];rw [hst,dA];have cS:=oO10.put (stc (pub,nm,s9,sl0,at_,()));have oO11:=yA oO10 (stc (pub,nm,s9,sl0,at_,()));have oQ11:=oQ10.chg cS (by simp;omega);have oR11:=oR10.chg cS (by simp;omega);have x11:=x10.chg1 cS (by simp);have sl11:=sl10.chg cS (fun C hC=>by simp;omega);have n11:(h10.put h5.next (.row (stc (pub,nm,s9,sl0,at_,())) .own)).next=h10.next:=rfl;have c011:Chg [P] h (h10.put h5.next (.row (stc (pub,nm,s9,sl0,at_,())) .own)):=by
  have a1:Chg [P] h h7:=((c02.mono (by simp)).trans c5).trans (cO.mono (by simp));exact (a1.trans c10).step cS (fun A hA hl=>by rw [List.mem_singleton] at hA;omega)
 generalize h10.put h5.next (.row (stc (pub,nm,s9,sl0,at_,())) .own)=h11 at *;have r11:h11.cell (h.next,0)=some (.ptr (some (P,0))):=oQ11.cell 0;simp only [r11,fA,qB];obtain ⟨h14,e14,c14,x14⟩:=gG (N:=N) hT x11 (w:=[123]) (by decide);rw [e14,aA];have oQ14:=oQ11.chg c14 (by simp;omega);have r14:h14.cell (h.next,0)=some (.ptr (some (P,0))):=oQ14.cell 0;simp only [r14,fA,qB];obtain ⟨h17,e17,c17,x17⟩:=qI (N:=N) hT x14 (w:=[125]) (by decide);rw [e17,aA];have c1117:=c14.trans c17;have oQ17:=oQ14.chg c17 (by simp;omega);have oO17:=oO11.chg c1117 (by simp;omega);have oR17:=oR11.chg c1117 (by simp;omega);have sl17:=sl11.chg c1117 (fun C hC=>by simp;omega);have hn17:=c1117.next;have c017:=c011.trans c1117;simp only [pD,hnm]
 cases hb:(jB T [125] (uC T [123] (pG T (pB T 1 σ).2).2)).1 with
 | true=>
  simp only [Bool.not_true,cond_false,if_true];rw [tAc oO17];have cZ:=oR17.put (stc (pub,nm,s9,sl0,at_,()));refine ⟨(pub,nm,s9,sl0,at_,()),_,bBj oR17 (pub,nm,s9,sl0,at_,()) (fun x h=>some (x,h)),(x17.chg1 cZ (by simp)).sub (by simp +contextual),c017.step cZ (fun A hA hl=>by rw [List.mem_singleton] at hA;omega),rA8 ?_ (Sl.nil _ _ _)⟩;exact (sl17.chg cZ (fun C hC=>by simp;omega)).weak (fun C hC _=>by omega)
 | false=>
  simp only [Bool.not_false,cond_true,Bool.false_eq_true,if_false];have r17:h17.cell (h.next,0)=some (.ptr (some (P,0))):=oQ17.cell 0;simp only [r17,fA,qB];have f:CF P (h5.next::h1.next::X) h17 h5.next h.next 6 3 (fun v=>stc (pub,nm,s9,v,at_,())):=⟨by omega,by omega,by simp,fun v=>rfl,fun v v'=>rfl⟩;obtain ⟨h21,e21,ci⟩:=fAg (N:=N) hT hN f ⟨x17,Chg.refl _ _,oQ17,sl0,oO17,Ow.nil _ _ _ _⟩;rw [e21,aA];obtain ⟨v,oO21,w21⟩:=ci.ex;have r21:h21.cell (h.next,0)=some (.ptr (some (P,0))):=ci.q.cell 0;simp only [r21,fA,qB];obtain ⟨h24,e24,c24,x24⟩:=gG (N:=N) hT ci.pc (w:=[125]) (by decide);rw [e24,aA];have hn21:=ci.chg.next;have hn24:=c24.next;have oO24:=oO21.chg c24 (by simp;omega);have w24:=w21.chg c24 (by intro A hA;rw [List.mem_singleton] at hA;omega);have oR24:=(oR17.chg ci.chg (by simp;omega)).chg c24 (by simp;omega);have sl24:=(sl17.chg ci.chg (fun C hC=>by simp;omega)).chg c24 (fun C hC=>by simp;omega);rw [tAc oO24];have cZ:=oR24.put (stc (pub,nm,s9,v,at_,()));have c024:Chg [P] h h24:=(c017.step ci.chg (fun A hA hl=>by
   simp only [List.mem_cons,List.not_mem_nil,or_false] at hA ⊢;omega)).trans c24
  refine ⟨(pub,nm,s9,v,at_,()),_,bBj oR24 (pub,nm,s9,v,at_,()) (fun x h=>some (x,h)),(x24.chg1 cZ (by simp)).sub (by simp +contextual),c024.step cZ (fun A hA hl=>by rw [List.mem_singleton] at hA;omega),rA8 ?_ ?_⟩
  ·exact (sl24.chg cZ (fun C hC=>by simp;omega)).weak (fun C hC _=>by omega)
  ·exact (w24.sl.chg cZ (fun C hC=>by simp;omega)).weak (fun C hC _=>by omega)
end
end Qp
namespace Qp
abbrev LfV:=zQ2×SL×Unit
def lfc (x:LfV):List AV:=[.str x.1,SL.av x.2.1]
abbrev lf0:LfV:=([],sl0,())
theorem fAo {β:Type} (r:LfV) (K:LfV→Option β):iA (.val zJ) (some (.agg (lfc r))) K=K r:=by
 obtain ⟨n,s,_⟩:=r;simp [lfc,SL.av]
theorem yAj {H:Heap} {A:Nat} {r:LfV} (o:H.own A (lfc r)) {β:Type} (K:LfV→Option β):iA (.val zJ) (H.cells (A,0) 2) K=K r:=by
 have:H.cells (A,0) 2=some (.agg (lfc r)):=o.cells (j:=0) (m:=2) (Nat.le_refl _)
 rw [this,fAo]
theorem cBh {H:Heap} {A:Nat} {r0:LfV} (o:H.own A (lfc r0)) (r:LfV) {β:Type} (K:LfV→Heap→Option β) :
  (rA (H.store (A,0) [.str r.1,.slice r.2.1.a r.2.1.len r.2.1.cap r.2.1.sz]) fun h7=>iA (.val zJ) (h7.cells (A,0) 2) fun x8=>K x8 h7)=K r (H.put A (.row (lfc r) .own)):=by
 have:H.store (A,0) [.str r.1,.slice r.2.1.a r.2.1.len r.2.1.cap r.2.1.sz]=some (H.put A (.row (lfc r) .own)):=o.store rfl
 rw [this,dA,yAj (yA o _)]
def tU (nm:Bs) (l:List D):D:=.t [.s nm,.l l]
theorem vW {h:Heap} {V:Nat→Prop} {nm:Bs} {l:List D} {s:SL} (x:Sl h V s l):Dt h V (tU nm l) (lfc (nm,s,())):=
 kAv (jC (a:=[_]) (uJ h V nm) (jC (a:=[_]) (b:=[]) (aM.2 x) (lY h V)))
def uU (T:List Tok) (k:Int) (σ:St):D×St:=(.s (pB T k σ).1,(pB T k σ).2)
def aW (T:List Tok) (σ:St):D×St:=
 let a:=pB T 3 σ
 let b:=jB T [58] a.2
 if b.1=true then (tU a.1 (iD T (uU T 3) [43] b.2).1,(iD T (uU T 3) [43] b.2).2) else (tU a.1 [],b.2)
def pF (T:List Tok) (σ:St):D×St:=
 let m:=jB T [109,117,116] σ
 let a:=pB T 1 m.2
 let r:=oH T 64 (uC T [58] a.2)
 (fdD m.1 a.1 r.1,r.2)
theorem jBb:AppN E 36 76 2 1000:=AppN.of (by kernel_rfl)
section
variable {N:Nat} {T:List Tok} {P:Nat} {X:List Nat} {st:Int} {h:Heap} {σ:St}
theorem gR (P:zJ2) (sep:Bs) (O Q:zJ2):∀ (M:Nat) (n:Int) (h:Heap),iM N M P sep (O,Q,()) n h=eN N P sep (fun h=>f189 N O Q h) M n h
 | 0,n,h=>rfl
 | M+1,n,h=>by
  rw [dZ];unfold gM;simp only [eN];simp only [gR P sep O Q M]
theorem iR (P:zJ2) (sep:Bs) (O Q:zJ2):∀ (M:Nat) (n:Int) (h:Heap),kM N M P sep (O,Q,()) n h=eN N P sep (fun h=>f155 N O Q h) M n h
 | 0,n,h=>rfl
 | M+1,n,h=>by
  rw [eZ];unfold jM;simp only [eN];simp only [iR P sep O Q M]
theorem jR (P:zJ2) (sep:Bs) (O Q:zJ2):∀ (M:Nat) (n:Int) (h:Heap),mM N M P sep (Q,O,()) n h=eN N P sep (fun h=>f157 N Q O h) M n h
 | 0,n,h=>rfl
 | M+1,n,h=>by
  rw [fZ];unfold lM;simp only [eN];simp only [jR P sep O Q M]
theorem aB4 (hT:Toks T) {h0:Heap} {O Q:Nat} {row:SL→List AV} (f:CF P X h0 O Q 1 1 row) {xs:List D} {i:Nat} (x:CI T P X st h0 O Q 1 row h xs (i,none)) (hl:xs.length≤64):∃ h',f189 N (some (O,0)) (some (Q,0)) h=some ((),h')∧CI T P X st h0 O Q 1 row h' (xs++[(uU T 3 (i,none)).1]) (uU T 3 (i,none)).2:=by
 unfold f189;obtain ⟨v,o1,w1,y,r1,r2⟩:=x.open f;obtain ⟨h6,e6,c6,x6⟩:=rU (N:=N) hT y (k:=3) (by decide);obtain ⟨H',eK,ci,g1,g2⟩:=x.close f o1 w1 gAm (by decide) (by decide) hl c6 x6 (uJ h6 _ (pB T 3 (i,none)).1) rfl;simp only [dA,Nat.zero_add,r1,r2,fA,uA,qB];rw [e6,aA];simp only [fF,r2,g2,g1,r1,wC,cond_true,aC];exact ⟨H',eK _,ci⟩
theorem eAs (hT:Toks T) (hN:100≤N) {h0:Heap} {O Q:Nat} {row:SL→List AV} (f:CF P X h0 O Q 1 1 row) (x:CI T P X st h0 O Q 1 row h0 [] σ):∃ h',tZ N (some (P,0)) [43] ((some (O,0)),(some (Q,0)),()) h0=some ((),h')∧CI T P X st h0 O Q 1 row h' (iD T (uU T 3) [43] σ).1 (iD T (uU T 3) [43] σ).2:=by
 unfold tZ;obtain ⟨o,h',e,y⟩:=fQ (N:=N) hT hN (F:=fun h=>f189 N (some (O,0)) (some (Q,0)) h) (one:=uU T 3) (Inv:=CI T P X st h0 O Q 1 row) (fun h xs σ c=>c.pc) (fun h h' xs σ σ' c d z=>c.step f d z) (fun h xs i c hl=>aB4 hT f c hl) (sep:=[43]) (by decide) x;simp only [gR];rw [e];simp only [uB];cases gE o (.exit 0) <;> exact ⟨h',rfl,y⟩
theorem bB4 (hT:Toks T) (hN:100≤N) (x:PC T P X h σ st):∃ r h',f156 N (some (P,0)) h=some (r,h')∧PC T P X h' (aW T σ).2 st∧Chg [P] h h'∧Dt h' (fun C=>h.next≤C) (aW T σ).1 (lfc r):=by
 unfold f156;have hP:=x.P_lt;have oQ:=vA h [AV.ptr (some (P,0))];have cQ:=qA h (.row [AV.ptr (some (P,0))] .own);have nQ:(h.push (.row [AV.ptr (some (P,0))] .own)).next=h.next+1:=rfl;dsimp only;generalize h.push (.row [AV.ptr (some (P,0))] .own)=h1 at *;have oR:=vA h1 (lfc lf0);have cR:=qA h1 (.row (lfc lf0) .own);have eR:h1.push (.row [(.str []),(.slice none 0 0 0)] .own)=h1.push (.row (lfc lf0) .own):=rfl;have nR:(h1.push (.row (lfc lf0) .own)).next=h1.next+1:=rfl;have x2:=(x.chg cQ).add cR (A:=h1.next) (Nat.le_refl _) (Nat.lt_succ_self _);rw [eR];generalize h1.push (.row (lfc lf0) .own)=h2 at *;have oQ2:=oQ.chg cR (by simp);have c02:=cQ.trans cR;have r2:h2.cell (h.next,0)=some (.ptr (some (P,0))):=oQ2.cell 0;simp only [r2,fA,qB];obtain ⟨h5,e5,c5,x5⟩:=rU (N:=N) hT x2 (k:=3) (by decide);rw [e5,aA];have oQ5:=oQ2.chg c5 (by simp;omega);have oR5:=oR.chg c5 (by simp;omega);have hn5:=c5.next;generalize hnm:(pB T 3 σ).1=nm at *;have oO0:=vA h5 (lfc lf0);have cO0:=qA h5 (.row (lfc lf0) .own);have eO:h5.push (.row [(.str []),(.slice none 0 0 0)] .own)=h5.push (.row (lfc lf0) .own):=rfl;have hstO:(h5.push (.row (lfc lf0) .own)).store (h5.next,0) [(.str nm),(.slice none 0 0 0)]=some ((h5.push (.row (lfc lf0) .own)).put h5.next (.row (lfc (nm,sl0,())) .own)):=oO0.store rfl;rw [eO,hstO,dA];have oO:=yA oO0 (lfc (nm,sl0,()));have cO:Chg [] h5 ((h5.push (.row (lfc lf0) .own)).put h5.next (.row (lfc (nm,sl0,())) .own)):=cO0.put (.inr (Nat.le_refl _)) _;have nO:((h5.push (.row (lfc lf0) .own)).put h5.next (.row (lfc (nm,sl0,())) .own)).next=h5.next+1:=rfl;have x7:=x5.add cO (A:=h5.next) (Nat.le_refl _) (Nat.lt_succ_self _);have oQ7:=oQ5.chg cO (by simp);have oR7:=oR5.chg cO (by simp);generalize (h5.push (.row (lfc lf0) .own)).put h5.next (.row (lfc (nm,sl0,())) .own)=h7 at *;have c07:Chg [P] h h7:=((c02.mono (by simp)).trans c5).trans (cO.mono (by simp));have r7:h7.cell (h.next,0)=some (.ptr (some (P,0))):=oQ7.cell 0;simp only [r7,fA,qB];obtain ⟨h17,e17,c17,x17⟩:=qI (N:=N) hT x7 (w:=[58]) (by decide);rw [e17,aA];have oQ17:=oQ7.chg c17 (by simp;omega);have oO17:=oO.chg c17 (by simp;omega);have oR17:=oR7.chg c17 (by simp;omega);have hn17:=c17.next;have c017:=c07.trans c17;simp only [aW,hnm]
 cases hb:(jB T [58] (pB T 3 σ).2).1 with
 | false=>
  simp only [cond_false,Bool.false_eq_true,if_false];rw [yAj oO17];have cZ:=oR17.put (lfc (nm,sl0,()));exact ⟨(nm,sl0,()),_,cBh oR17 (nm,sl0,()) (fun x h=>some (x,h)),(x17.chg1 cZ (by simp)).sub (by simp +contextual),c017.step cZ (fun A hA hl=>by rw [List.mem_singleton] at hA;omega),vW (Sl.nil _ _ _)⟩
 | true=>
  simp only [cond_true,if_true];have r17:h17.cell (h.next,0)=some (.ptr (some (P,0))):=oQ17.cell 0;simp only [r17,fA,qB];have f:CF P (h5.next::h1.next::X) h17 h5.next h.next 1 1 (fun v=>lfc (nm,v,())):=⟨by omega,by omega,by simp,fun v=>rfl,fun v v'=>rfl⟩;obtain ⟨h21,e21,ci⟩:=eAs (N:=N) hT hN f ⟨x17,Chg.refl _ _,oQ17,sl0,oO17,Ow.nil _ _ _ _⟩;rw [e21,aA];obtain ⟨v,oO21,w21⟩:=ci.ex;have hn21:=ci.chg.next;have oR21:=oR17.chg ci.chg (by simp;omega);rw [yAj oO21];have cZ:=oR21.put (lfc (nm,v,()));have c021:Chg [P] h h21:=c017.step ci.chg (fun A hA hl=>by
   simp only [List.mem_cons,List.not_mem_nil,or_false] at hA ⊢;omega)
  refine ⟨(nm,v,()),_,cBh oR21 (nm,v,()) (fun x h=>some (x,h)),(ci.pc.chg1 cZ (by simp)).sub (by simp +contextual),c021.step cZ (fun A hA hl=>by rw [List.mem_singleton] at hA;omega),vW ?_⟩;exact (w21.sl.chg cZ (fun C hC=>by simp;omega)).weak (fun C hC _=>by omega)
theorem cB4 (hT:Toks T) (hN:100≤N) {h0:Heap} {O Q:Nat} {row:SL→List AV} (f:CF P X h0 O Q 2 2 row) {xs:List D} {i:Nat} (x:CI T P X st h0 O Q 2 row h xs (i,none)) (hl:xs.length≤64):∃ h',f155 N (some (O,0)) (some (Q,0)) h=some ((),h')∧CI T P X st h0 O Q 2 row h' (xs++[(aW T (i,none)).1]) (aW T (i,none)).2:=by
 unfold f155;obtain ⟨v,o1,w1,y,r1,r2⟩:=x.open f;obtain ⟨r,h6,e6,x6,c6,d6⟩:=bB4 (N:=N) hT hN y;obtain ⟨H',eK,ci,g1,g2⟩:=x.close f o1 w1 jBb (by decide) (by decide) hl c6 x6 d6 rfl;simp only [dA,Nat.zero_add,r1,r2,fA,uA,qB];rw [e6,aA];have g2':(h6.push (.row [(.str r.1),(.slice r.2.1.a r.2.1.len r.2.1.cap r.2.1.sz)] .own)).cell (O,2)=some (.slice v.a v.len v.cap v.sz):=g2;simp only [fF,r2,g2',g1,r1,wC,cond_true,aC];exact ⟨H',eK _,ci⟩
theorem fAs (hT:Toks T) (hN:100≤N) {h0:Heap} {O Q:Nat} {row:SL→List AV} (f:CF P X h0 O Q 2 2 row) (x:CI T P X st h0 O Q 2 row h0 [] σ):∃ h',mU N (some (P,0)) [44] ((some (O,0)),(some (Q,0)),()) h0=some ((),h')∧CI T P X st h0 O Q 2 row h' (iD T (aW T) [44] σ).1 (iD T (aW T) [44] σ).2:=by
 unfold mU;obtain ⟨o,h',e,y⟩:=fQ (N:=N) hT hN (F:=fun h=>f155 N (some (O,0)) (some (Q,0)) h) (one:=aW T) (Inv:=CI T P X st h0 O Q 2 row) (fun h xs σ c=>c.pc) (fun h h' xs σ σ' c d z=>c.step f d z) (fun h xs i c hl=>cB4 hT hN f c hl) (sep:=[44]) (by decide) x;simp only [iR];rw [e];simp only [uB];cases gE o (.exit 0) <;> exact ⟨h',rfl,y⟩
theorem dB4 (hT:Toks T) (hN:100≤N) {h0:Heap} {O Q:Nat} {row:SL→List AV} (f:CF P X h0 O Q 6 3 row) {xs:List D} {i:Nat} (x:CI T P X st h0 O Q 6 row h xs (i,none)) (hl:xs.length≤64):∃ h',f157 N (some (Q,0)) (some (O,0)) h=some ((),h')∧CI T P X st h0 O Q 6 row h' (xs++[(pF T (i,none)).1]) (pF T (i,none)).2:=by
 unfold f157;have hO:=f.o;have hQ:=f.q;obtain ⟨v,o1,w1,y,r1,r2⟩:=x.open f;simp only [dA,r2,fA,qB];obtain ⟨h4,e4,c4,x4⟩:=iI (N:=N) hT y (w:=[109,117,116]) (by decide);rw [e4,aA];have r4:h4.cell (Q,0)=some (.ptr (some (P,0))):=(x.q.chg c4 (by simp;omega)).cell 0;simp only [r4,fA,qB];obtain ⟨r,h8,e8,x8,c8,d8,nm,t,hr,hf,dt⟩:=eAg (N:=N) hT hN x4;rw [e8,aA];have hn0:=x.chg.next;have hn4:=c4.next;have hn8:=c8.next;have hnm:nm=(pB T 1 (jB T [109,117,116] (i,none)).2).1:=by
  simp only [bF,fdD,D.t.injEq,List.cons.injEq,D.s.injEq,true_and,and_true] at hf;exact hf.symm
 have oA0:=vA h8 (fdc fd0);have cA0:=qA h8 (.row (fdc fd0) .own);have eA:h8.push (.row [(.bool false),(.str []),(.int .i64 0),(.str []),(.slice none 0 0 0),(.slice none 0 0 0)] .own)=h8.push (.row (fdc fd0) .own):=rfl;rw [eA,dAs oA0 r,dA];have oA1:=yA oA0 (fdc r);have cA1:Chg [] h8 ((h8.push (.row (fdc fd0) .own)).put h8.next (.row (fdc r) .own)):=cA0.put (.inr (Nat.le_refl _)) _;generalize hm:(jB T [109,117,116] (i,none)).1=m at *;have hst:((h8.push (.row (fdc fd0) .own)).put h8.next (.row (fdc r) .own)).store (h8.next,0) [.bool m]=some (((h8.push (.row (fdc fd0) .own)).put h8.next (.row (fdc r) .own)).put h8.next (.row (fdc (mS m nm t)) .own)):=by
  rw [hr] at oA1 ⊢;exact oA1.store1 (j:=0) (by show 0<6;omega) _
 simp only [Nat.add_zero];rw [hst,dA];have oA2:=yA oA1 (fdc (mS m nm t));have cA2:Chg [] h8 (((h8.push (.row (fdc fd0) .own)).put h8.next (.row (fdc r) .own)).put h8.next (.row (fdc (mS m nm t)) .own)):=cA1.put (.inr (Nat.le_refl _)) _;generalize ((h8.push (.row (fdc fd0) .own)).put h8.next (.row (fdc r) .own)).put h8.next (.row (fdc (mS m nm t)) .own)=h11 at *;have x11:=x8.chg cA2;have c11:Chg [P] h h11:=(c4.trans c8).trans (cA2.mono (by simp));have dd:Dt h11 (fun C=>h.next≤C) (fdD m nm (oH T 64 (uC T [58] (pB T 1 (jB T [109,117,116] (i,none)).2).2)).1) (fdc (mS m nm t)):=uB3 ((dt.chg cA2 (by simp)).weak (fun C hC _=>by omega));obtain ⟨H',eK,ci,g1,g2⟩:=x.close f o1 w1 vB3 (by decide) (by decide) hl c11 x11 dd rfl;simp only [Nat.zero_add,g1,fA,uA];rw [vAj oA2];have hp:(pF T (i,none))=(fdD m nm (oH T 64 (uC T [58] (pB T 1 (jB T [109,117,116] (i,none)).2).2)).1,(bF T (jB T [109,117,116] (i,none)).2).2):=by
  simp only [pF,bF,hm,hnm]
 rw [hp];exact ⟨H',eK _,ci⟩
theorem gAg (hT:Toks T) (hN:100≤N) {h0:Heap} {O Q:Nat} {row:SL→List AV} (f:CF P X h0 O Q 6 3 row) (x:CI T P X st h0 O Q 6 row h0 [] σ):∃ h',nU N (some (P,0)) [44] ((some (Q,0)),(some (O,0)),()) h0=some ((),h')∧CI T P X st h0 O Q 6 row h' (iD T (pF T) [44] σ).1 (iD T (pF T) [44] σ).2:=by
 unfold nU;obtain ⟨o,h',e,y⟩:=fQ (N:=N) hT hN (F:=fun h=>f157 N (some (Q,0)) (some (O,0)) h) (one:=pF T) (Inv:=CI T P X st h0 O Q 6 row) (fun h xs σ c=>c.pc) (fun h h' xs σ σ' c d z=>c.step f d z) (fun h xs i c hl=>dB4 hT hN f c hl) (sep:=[44]) (by decide) x;simp only [jR];rw [e];simp only [uB];cases gE o (.exit 0) <;> exact ⟨h',rfl,y⟩
end
end Qp
namespace Qp
def pH (T:List Tok):Nat→St→List Bs×St
 | 0,σ=>let b:=jB T [46] σ;if b.1=true then ([],jE T 5 b.2) else ([],b.2)
 | g+1,σ=>
  let b:=jB T [46] σ
  if b.1=true then
   let c:=jB T [42] b.2
   if c.1=true then ([42]::(pH T g c.2).1,(pH T g c.2).2)
   else let x:=pB T 1 c.2;(x.1::(pH T g x.2).1,(pH T g x.2).2)
  else ([],b.2)
def uE (T:List Tok) (σ:St):D×St:=
 let a:=pB T 1 σ
 let p:=pH T 64 a.2
 (tU a.1 (p.1.map D.s),p.2)
def pl0:D:=tU [] []
def opD (k n:Int) (pl:D):D:=.t [.i k,.i n,pl]
def op0:D:=opD 0 0 pl0
def kE (T:List Tok) (σ:St):D×St:=
 let a:=jB T [116,114,117,101] σ
 if a.1=true then (opD 2 1 pl0,a.2) else
 let b:=jB T [102,97,108,115,101] a.2
 if b.1=true then (opD 2 0 pl0,b.2) else
 if (tk T b.2.1).1=4 then (opD 1 ((aZ (pB T 4 b.2).1 0:Nat):Int) pl0,(pB T 4 b.2).2)
 else (opD 3 0 (uE T b.2).1,(uE T b.2).2)
def mC (T:List Tok) (w:Bs) (σ:St):Bool:=σ.2.isNone&&(decide ((tk T σ.1).1=1)&&(decide ((tk T (σ.1+1)).1=5)&&mB (tk T (σ.1+1)).2.1 w))
section
variable {N:Nat} {T:List Tok} {P:Nat} {X:List Nat} {st:Int} {h:Heap} {σ:St}
theorem gAs (hT:Toks T) {h0:Heap} {O:Nat} {R:zJ2} {nm:Bs} (hO:P<O∧O<h0.next) (hX:O∈X):∀ (g M:Nat) (h:Heap) (σ:St) (v:SL) (xs:List Bs),g<M→g≤64→xs.length=64-g→PC T P X h σ st→Chg [P,O] h0 h→h.own O (lfc (nm,v,()))→Ow h0.next h v 1 (xs.map D.s)→
  ∃ v' h',mA8 N M (some (P,0)) R (some (O,0)) h=some (.exit 0,(R,some (O,0),()),h')∧PC T P X h' (pH T g σ).2 st∧Chg [P,O] h0 h'∧h'.own O (lfc (nm,v',()))∧Ow h0.next h' v' 1 ((xs++(pH T g σ).1).map D.s):=by
 intro g
 induction g with
 | zero=>
  intro M h σ v xs hM hg hx x c oO w;obtain ⟨M,rfl⟩:∃ m,M=m+1:=⟨M-1,by omega⟩;rw [jY];unfold oU;obtain ⟨h7,e7,c7,x7⟩:=qI (N:=N) hT x (w:=[46]) (by decide);rw [e7,aA];have o7:=oO.chg c7 (by simp;omega);have w7:=w.chg c7 (by intro A hA;rw [List.mem_singleton] at hA;omega);have c07:=c.trans (c7.mono (N:=[P,O]) (by simp));simp only [pH]
  cases hb:(jB T [46] σ).1 with
  | false=>
   simp only [cond_false,Bool.false_eq_true,if_false];exact ⟨v,h7,rfl,x7,c07,o7,by rw [List.append_nil];exact w7⟩
  | true=>
   simp only [cond_true,if_true];have r7:h7.cell (O,1)=some (.slice v.a v.len v.cap v.sz):=o7.cell 1;have hv:v.len=64:=by rw [w7.len,List.length_map,hx]
   simp only [dA,Nat.zero_add,r7,fA,uA];have hs:=(nH hb).1;rw [hs] at x7 ⊢;obtain ⟨h11,e11,c11,x11⟩:=qA2 (N:=N) x7 v.len;rw [show Int.ofNat v.len=(v.len:Int) from rfl,e11,aA];rw [hv] at x11 ⊢;simp only [Nat.le_refl,if_true,jE,Option.isNone_some,cond_false] at x11 ⊢;exact ⟨v,h11,rfl,x11,c07.trans (c11.mono (by simp)),o7.chg c11 (by simp;omega),by rw [List.append_nil];exact w7.chg c11 (by intro A hA;rw [List.mem_singleton] at hA;omega)⟩
 | succ g ih=>
  intro M h σ v xs hM hg hx x c oO w;obtain ⟨M,rfl⟩:∃ m,M=m+1:=⟨M-1,by omega⟩;rw [jY];unfold oU;obtain ⟨h7,e7,c7,x7⟩:=qI (N:=N) hT x (w:=[46]) (by decide);rw [e7,aA];have o7:=oO.chg c7 (by simp;omega);have w7:=w.chg c7 (by intro A hA;rw [List.mem_singleton] at hA;omega);have c07:=c.trans (c7.mono (N:=[P,O]) (by simp));simp only [pH]
  cases hb:(jB T [46] σ).1 with
  | false=>
   simp only [cond_false,Bool.false_eq_true,if_false];exact ⟨v,h7,rfl,x7,c07,o7,by rw [List.append_nil];exact w7⟩
  | true=>
   simp only [cond_true,if_true];have r7:h7.cell (O,1)=some (.slice v.a v.len v.cap v.sz):=o7.cell 1;have hv:v.len=64-(g+1):=by rw [w7.len,List.length_map,hx]
   simp only [dA,Nat.zero_add,r7,fA,uA];have hs:=(nH hb).1;rw [hs] at x7 ⊢;obtain ⟨h11,e11,c11,x11⟩:=qA2 (N:=N) x7 v.len;rw [show Int.ofNat v.len=(v.len:Int) from rfl,e11,aA];have z:¬ 64≤v.len:=by omega
   simp only [z,if_false,Option.isNone_none,cond_true] at x11 ⊢;obtain ⟨h13,e13,c13,x13⟩:=qI (N:=N) hT x11 (w:=[42]) (by decide);rw [e13,aA];have c713:=c11.trans c13;have o13:=o7.chg c713 (by simp;omega);have w13:=w7.chg c713 (by intro A hA;rw [List.mem_singleton] at hA;omega);have c013:=c07.trans (c713.mono (N:=[P,O]) (by simp));have hlt:∀ A,v.blk=some A→h0.next≤A∧A<h13.next:=w13.ge;have r13:h13.cell (O,1)=some (.slice v.a v.len v.cap v.sz):=o13.cell 1;have hll:(xs.length+1) * 100≤1073741824:=by omega
   cases hb2:(jB T [42] (σ.1+1,none)).1 with
   | true=>
    simp only [cond_true,if_true,r13,fA,uA];have hs2:=(nH hb2).1;rw [hs2] at x13 ⊢;have xf:=x13.free (X':=v.blk.toList++X) fun A hA=>by
     rcases List.mem_append.1 hA with hA | hA
     ·have:=hlt A (by simpa using hA);omega
     ·exact x13.pa.xl A hA
    obtain ⟨v',H',eK,o',w',c'⟩:=cAs gAm (by decide) c013 o13 (j:=1) rfl w13 hO.2 (uJ h13 _ ([42]:Bs)) rfl (by rw [List.length_map];exact hll);have hM':∀ A∈O::v.blk.toList,A∈v.blk.toList++X:=fun A hA=>by
     rcases List.mem_cons.1 hA with rfl | hA
     ·exact List.mem_append_right _ hX
     ·exact List.mem_append_left _ hA
    have xH:=(xf.chgM c' hM').sub (X':=X) fun A hA=>List.mem_append_right _ hA;have cH:Chg [P,O] h0 H':=c013.step c' fun A hA hl=>by
     rcases List.mem_cons.1 hA with rfl | hA
     ·simp
     ·have:=hlt A (by simpa using hA);omega
    rw [eK];have w'':Ow h0.next H' v' 1 ((xs++[[42]]).map D.s):=by rw [List.map_append];exact w'
    have:=ih M H' _ v' (xs++[[42]]) (by omega) (by omega) (by simp;omega) xH cH o' w''
    simpa only [List.append_assoc,List.singleton_append] using this
   | false=>
    simp only [cond_false,Bool.false_eq_true,if_false,r13,fA,uA];rw [rD hb2] at x13 ⊢;have xf:=x13.free (X':=v.blk.toList++X) fun A hA=>by
     rcases List.mem_append.1 hA with hA | hA
     ·have:=hlt A (by simpa using hA);omega
     ·exact x13.pa.xl A hA
    obtain ⟨h24,e24,c24,x24⟩:=rU (N:=N) hT xf (k:=1) (by decide);rw [e24,aA];have o24:=o13.chg c24 (by simp;omega);have w24:=w13.chg c24 (by intro A hA;rw [List.mem_singleton] at hA;omega);have c024:=c013.trans (c24.mono (N:=[P,O]) (by simp));generalize hxx:(pB T 1 (σ.1+1,none)).1=xx at *;obtain ⟨v',H',eK,o',w',c'⟩:=cAs gAm (by decide) c024 o24 (j:=1) rfl w24 hO.2 (uJ h24 _ xx) rfl (by rw [List.length_map];exact hll);have hM':∀ A∈O::v.blk.toList,A∈v.blk.toList++X:=fun A hA=>by
     rcases List.mem_cons.1 hA with rfl | hA
     ·exact List.mem_append_right _ hX
     ·exact List.mem_append_left _ hA
    have xH:=(x24.chgM c' hM').sub (X':=X) fun A hA=>List.mem_append_right _ hA;have cH:Chg [P,O] h0 H':=c024.step c' fun A hA hl=>by
     rcases List.mem_cons.1 hA with rfl | hA
     ·simp
     ·have:=hlt A (by simpa using hA);omega
    have r24:h24.cell (O,1)=some (.slice v.a v.len v.cap v.sz):=o24.cell 1;have r25:(h24.push (.row [(.str xx)] .own)).cell (O,1)=some (.slice v.a v.len v.cap v.sz):=(o24.chg (qA h24 _) (by simp)).cell 1;simp only [r25,r24,wC,cond_true,aC];rw [eK];have w'':Ow h0.next H' v' 1 ((xs++[xx]).map D.s):=by rw [List.map_append];exact w'
    have:=ih M H' _ v' (xs++[xx]) (by omega) (by omega) (by simp;omega) xH cH o' w''
    simpa only [List.append_assoc,List.singleton_append] using this
theorem rA2 (hT:Toks T) (hN:100≤N) (x:PC T P X h σ st):∃ r h',f221 N (some (P,0)) h=some (r,h')∧PC T P X h' (uE T σ).2 st∧Chg [P] h h'∧Dt h' (fun C=>h.next≤C) (uE T σ).1 (lfc r):=by
 unfold f221;have hP:=x.P_lt;have oR:=vA h (lfc lf0);have cR:=qA h (.row (lfc lf0) .own);have eR:h.push (.row [(.str []),(.slice none 0 0 0)] .own)=h.push (.row (lfc lf0) .own):=rfl;have nR:(h.push (.row (lfc lf0) .own)).next=h.next+1:=rfl;have x1:=x.add cR (A:=h.next) (Nat.le_refl _) (Nat.lt_succ_self _);rw [eR];generalize h.push (.row (lfc lf0) .own)=h1 at *;dsimp only;obtain ⟨h3,e3,c3,x3⟩:=rU (N:=N) hT x1 (k:=1) (by decide);rw [e3,aA];have oR3:=oR.chg c3 (by simp;omega);have hn3:=c3.next;generalize hnm:(pB T 1 σ).1=nm at *;have oO0:=vA h3 (lfc lf0);have cO0:=qA h3 (.row (lfc lf0) .own);have eO:h3.push (.row [(.str []),(.slice none 0 0 0)] .own)=h3.push (.row (lfc lf0) .own):=rfl;have hstO:(h3.push (.row (lfc lf0) .own)).store (h3.next,0) [(.str nm),(.slice none 0 0 0)]=some ((h3.push (.row (lfc lf0) .own)).put h3.next (.row (lfc (nm,sl0,())) .own)):=oO0.store rfl;rw [eO,hstO,dA];have oO:=yA oO0 (lfc (nm,sl0,()));have cO:Chg [] h3 ((h3.push (.row (lfc lf0) .own)).put h3.next (.row (lfc (nm,sl0,())) .own)):=cO0.put (.inr (Nat.le_refl _)) _;have nO:((h3.push (.row (lfc lf0) .own)).put h3.next (.row (lfc (nm,sl0,())) .own)).next=h3.next+1:=rfl;have x5:=x3.add cO (A:=h3.next) (Nat.le_refl _) (Nat.lt_succ_self _);have oR5:=oR3.chg cO (by simp);generalize (h3.push (.row (lfc lf0) .own)).put h3.next (.row (lfc (nm,sl0,())) .own)=h5 at *;obtain ⟨v,h32,e32,x32,c32,oO32,w32⟩:=gAs (N:=N) hT (h0:=h5) (O:=h3.next) (R:=some (h.next,0)) (by omega) (by simp) 64 N h5 _ sl0 [] (by omega) (Nat.le_refl _) rfl x5 (Chg.refl _ _) oO (Ow.nil _ _ _ _);rw [e32];simp only [uB,dA];have hn32:=c32.next;rw [yAj oO32];have oR32:=oR5.chg c32 (by simp;omega);have cZ:=oR32.put (lfc (nm,v,()));have c032:Chg [P] h h32:=(((cR.mono (by simp)).trans c3).trans (cO.mono (by simp))).step c32 (fun A hA hl=>by
  simp only [List.mem_cons,List.not_mem_nil,or_false] at hA ⊢;omega)
 simp only [uE,hnm];rw [List.nil_append] at w32;refine ⟨(nm,v,()),_,cBh oR32 (nm,v,()) (fun x h=>some (x,h)),(x32.chg1 cZ (by simp)).sub (by simp +contextual),c032.step cZ (fun A hA hl=>by rw [List.mem_singleton] at hA;omega),vW ?_⟩;exact (w32.sl.chg cZ (fun C hC=>by simp;omega)).weak (fun C hC _=>by omega)
abbrev OpV:=Int×Int×zQ2×SL×Unit
def opc (x:OpV):List AV:=[.int .i64 x.1,.int .i64 x.2.1,.str x.2.2.1,SL.av x.2.2.2.1]
theorem gAo {β:Type} (r:OpV) (K:OpV→Option β):iA (.val zE) (some (.agg (opc r))) K=K r:=by
 obtain ⟨k,n,x,s,_⟩:=r;simp [opc,SL.av]
theorem pAz {H:Heap} {A:Nat} {r:OpV} (o:H.own A (opc r)) {β:Type} (K:OpV→Option β):iA (.val zE) (H.cells (A,0) 4) K=K r:=by
 have:H.cells (A,0) 4=some (.agg (opc r)):=o.cells (j:=0) (m:=4) (Nat.le_refl _)
 rw [this,gAo]
theorem kBf {H:Heap} {A:Nat} {r0:OpV} (o:H.own A (opc r0)) (r:OpV) {β:Type} (K:OpV→Heap→Option β) :
  (rA (H.store (A,0) [.int .i64 r.1,.int .i64 r.2.1,.str r.2.2.1,.slice r.2.2.2.1.a r.2.2.2.1.len r.2.2.2.1.cap r.2.2.2.1.sz]) fun h7=>iA (.val zE) (h7.cells (A,0) 4) fun x8=>K x8 h7)=K r (H.put A (.row (opc r) .own)):=by
 have:H.store (A,0) [.int .i64 r.1,.int .i64 r.2.1,.str r.2.2.1,.slice r.2.2.2.1.a r.2.2.2.1.len r.2.2.2.1.cap r.2.2.2.1.sz]=some (H.put A (.row (opc r) .own)):=o.store rfl
 rw [this,dA,pAz (yA o _)]
theorem vAm {h:Heap} {V:Nat→Prop} {k n:Int} {pl:D} {p:LfV} (x:Dt h V pl (lfc p)):Dt h V (opD k n pl) (opc (k,n,p.1,p.2.1,())):=
 kAv (jC (a:=[_]) (wAj h V k) (jC (a:=[_]) (wAj h V n) (jC (a:=lfc p) (b:=[]) x (lY h V))))
theorem kL (h:Heap) (V:Nat→Prop):Dt h V pl0 (lfc lf0):=vW (Sl.nil _ _ _)
theorem pS (hT:Toks T) (hN:100≤N) (x:PC T P X h σ st):∃ r h',f208 N (some (P,0)) h=some (r,h')∧PC T P X h' (kE T σ).2 st∧Chg [P] h h'∧Dt h' (fun C=>h.next≤C) (kE T σ).1 (opc r):=by
 unfold f208;have hP:=x.P_lt;have oR:=vA h (opc (0,0,[],sl0,()));have cR:=qA h (.row (opc (0,0,[],sl0,())) .own);have eR:h.push (.row [(.int .i64 0),(.int .i64 0),(.str []),(.slice none 0 0 0)] .own)=h.push (.row (opc (0,0,[],sl0,())) .own):=rfl;have nR:(h.push (.row (opc (0,0,[],sl0,())) .own)).next=h.next+1:=rfl;have x1:=x.add cR (A:=h.next) (Nat.le_refl _) (Nat.lt_succ_self _);rw [eR];generalize h.push (.row (opc (0,0,[],sl0,())) .own)=h1 at *;dsimp only;have fin:∀ {h':Heap} {σ':St} (c:Chg [P] h1 h') (y:PC T P (h.next::X) h' σ' st) (o:h'.own h.next (opc (0,0,[],sl0,()))) (r:OpV) {d:D} (_:Dt h' (fun C=>h.next+1≤C) d (opc r)),PC T P X (h'.put h.next (.row (opc r) .own)) σ' st∧Chg [P] h (h'.put h.next (.row (opc r) .own))∧Dt (h'.put h.next (.row (opc r) .own)) (fun C=>h.next≤C) d (opc r):=fun c y o r d hd=>
  ⟨(y.chg1 (o.put (opc r)) (by simp)).sub (by simp +contextual),((cR.mono (by simp)).trans c).put (.inr (Nat.le_refl _)) _,(hd.chg (o.put (opc r)) (fun C hC=>by simp;omega)).weak (fun C hC _=>by omega)⟩
 obtain ⟨h3,e3,c3,x3⟩:=iI (N:=N) hT x1 (w:=[116,114,117,101]) (by decide);rw [e3,aA];have o3:=oR.chg c3 (by simp;omega);simp only [kE]
 cases hb:(jB T [116,114,117,101] σ).1 with
 | true=>
  simp only [cond_true,if_true];obtain ⟨f1,f2,f3⟩:=fin c3 x3 o3 (2,1,[],sl0,()) (vAm (kL h3 _));exact ⟨(2,1,[],sl0,()),_,kBf o3 (2,1,[],sl0,()) (fun x h=>some (x,h)),f1,f2,f3⟩
 | false=>
  simp only [cond_false,Bool.false_eq_true,if_false];obtain ⟨h7,e7,c7,x7⟩:=iI (N:=N) hT x3 (w:=[102,97,108,115,101]) (by decide);rw [e7,aA];have c17:=c3.trans c7;have o7:=o3.chg c7 (by simp;omega)
  cases hb2:(jB T [102,97,108,115,101] (jB T [116,114,117,101] σ).2).1 with
  | true=>
   simp only [cond_true,if_true];obtain ⟨f1,f2,f3⟩:=fin c17 x7 o7 (2,0,[],sl0,()) (vAm (kL h7 _));exact ⟨(2,0,[],sl0,()),_,kBf o7 (2,0,[],sl0,()) (fun x h=>some (x,h)),f1,f2,f3⟩
  | false=>
   simp only [cond_false,Bool.false_eq_true,if_false];generalize (jB T [102,97,108,115,101] (jB T [116,114,117,101] σ).2).2=τ at *;obtain ⟨h11,e11,c11⟩:=cN (N:=N) x7.pa;rw [e11,aA];have x11:=x7.chg c11;have o11:=o7.chg c11 (by simp);have c111:=c17.trans (c11.mono (N:=[P]) (by simp));simp only [kAj,eqI]
   by_cases q:(tk T τ.1).1=4
   ·simp only [q,decide_true,cond_true,if_true]
    obtain ⟨h14,e14,c14,x14⟩:=rU (N:=N) hT x11 (k:=4) (by decide);rw [e14,aA];have o14:=o11.chg c14 (by simp;omega);have at16:∃ u h16,f220 N (pB T 4 τ).1 h14=some ((((aZ (pB T 4 τ).1 0:Nat):Int),u,()),h16)∧Chg [] h14 h16:=by
     obtain ⟨i,e⟩:=τ
     cases e with
     | none=>
      have ok:=uB9 hT x7.lt;have hk:=ok.num q;have et:(pB T 4 (i,none)).1=(tk T i).2.1:=by simp only [pB];rw [if_pos q]
      rw [et];obtain ⟨h',e',c'⟩:=cAx (N:=N) (h:=h14) (by omega) hk.1 hk.2;exact ⟨_,h',e',c'⟩
     | some p=>
      have et:(pB T 4 (i,some p)).1=[]:=rfl;rw [et];obtain ⟨u,h',e',c'⟩:=uAm (N:=N) x14.pin;exact ⟨u,h',e',c'⟩
    obtain ⟨u,h16,e16,c16⟩:=at16;rw [e16,aA];have x16:=x14.chg c16;have o16:=o14.chg c16 (by simp);obtain ⟨f1,f2,f3⟩:=fin ((c111.trans c14).trans (c16.mono (by simp))) x16 o16 (1,((aZ (pB T 4 τ).1 0:Nat):Int),[],sl0,()) (vAm (kL h16 _));exact ⟨(1,((aZ (pB T 4 τ).1 0:Nat):Int),[],sl0,()),_,kBf o16 (1,((aZ (pB T 4 τ).1 0:Nat):Int),[],sl0,()) (fun x h=>some (x,h)),f1,f2,f3⟩
   ·simp only [q,decide_false,cond_false,if_false]
    obtain ⟨r,h20,e20,x20,c20,d20⟩:=rA2 (N:=N) hT hN x11;rw [e20,aA];have o20:=o11.chg c20 (by simp;omega);have hn11:=c111.next;obtain ⟨f1,f2,f3⟩:=fin (c111.trans c20) x20 o20 (3,0,r.1,r.2.1,()) (vAm (d20.weak fun C hC _=>by omega));exact ⟨(3,0,r.1,r.2.1,()),_,kBf o20 (3,0,r.1,r.2.1,()) (fun x h=>some (x,h)),f1,f2,f3⟩
theorem iAg (hT:Toks T) (x:PC T P X h σ st) (w:Bs):∃ h',f231 N (some (P,0)) w h=some (mC T w σ,h')∧Chg [] h h':=by
 unfold f231;obtain ⟨v,k3,hv⟩:=x.pa.readE;simp only [dA,Nat.zero_add,k3,fA,bE,hv.ne 9,rB,mC]
 cases hn:σ.2 with
 | some q=>simp only [Option.isSome_some,cond_true,Option.isNone_some,Bool.false_and];exact ⟨_,rfl,Chg.refl _ _⟩
 | none=>
  simp only [Option.isSome_none,cond_false,Option.isNone_none,Bool.true_and];obtain ⟨h5,e5,c5⟩:=cN (N:=N) x.pa;rw [e5,aA];simp only [kAj,eqI]
  by_cases q:(tk T σ.1).1=1
  ·simp only [q,decide_true,Bool.not_true,cond_false,Bool.true_and]
   have hnx:=fAr hT x.lt (by rw [q];decide);have x5:=x.pa.chg c5;obtain ⟨⟨s,v',g1,g2,g3,g4⟩,g5,g6⟩:=x5;have k0:h5.cell (P,0)=some (.slice s.a s.len s.cap s.sz):=g1.cell 0;have k1:h5.cell (P,1)=some (.int .i64 (σ.1:Int)):=g1.cell 1;obtain ⟨d1,d2,d3⟩:=kA8 g2 g3 hnx;simp only [Nat.add_zero,k0,k1,fA,uA,bD];rw [mB2 hT x.lt,dU d2 d3,d1,yBi];obtain ⟨h8,e8,c8,o8⟩:=mAj h5 (tk T (σ.1+1));have c7:=qA h5 (.row [(.int .i64 0),(.str []),(.int .i64 0)] .own);have g1':=g1.chg c7 (by simp);have t0:(h5.push (.row [(.int .i64 0),(.str []),(.int .i64 0)] .own)).cell (P,0)=some (.slice s.a s.len s.cap s.sz):=g1'.cell 0;have t1:(h5.push (.row [(.int .i64 0),(.str []),(.int .i64 0)] .own)).cell (P,1)=some (.int .i64 (σ.1:Int)):=g1'.cell 1;have t2:=(kA8 (g2.chg c7 (by simp)) g3 hnx).1;simp only [kAj] at e8;rw [e8];simp only [dA,tkc] at t2 d1 ⊢;simp only [t0,t1,t2,k0,k1,d1,wC,cond_true,aC];have q0:h8.cell (h5.next,0)=some (.int .i64 (tk T (σ.1+1)).1):=o8.cell 0;have q1:h8.cell (h5.next,1)=some (.str (tk T (σ.1+1)).2.1):=o8.cell 1;simp only [q0,q1,fA,bD,cD]
   by_cases z5:(tk T (σ.1+1)).1=5
   ·simp only [z5,decide_true,cond_true,Bool.true_and];exact ⟨_,rfl,c5.trans c8⟩
   ·simp only [z5,decide_false,cond_false,Bool.false_and];exact ⟨_,rfl,c5.trans c8⟩
  ·simp only [q,decide_false,Bool.not_false,cond_true,Bool.false_and]
   exact ⟨_,rfl,c5⟩
def qD (T:List Tok) (σ:St):Bool:=mC T [58,58] σ||mC T [40] σ
theorem iAs (hT:Toks T) (x:PC T P X h σ st):∃ h',f222 N (some (P,0)) h=some (qD T σ,h')∧Chg [] h h':=by
 unfold f222 qD;obtain ⟨h2,e2,c2⟩:=iAg (N:=N) hT x [58,58];rw [e2,aA]
 cases hb:mC T [58,58] σ with
 | true=>simp only [cond_true,Bool.true_or];exact ⟨_,rfl,c2⟩
 | false=>
  simp only [cond_false,Bool.false_or];obtain ⟨h4,e4,c4⟩:=iAg (N:=N) hT (x.chg c2) [40];rw [e4,aA];exact ⟨_,rfl,c2.trans c4⟩
end
end Qp
namespace Ai
def OwV (V:Nat→Prop) (h:Heap) (s:SL) (n:Nat) (xs:List D):Prop:=
 (s.a=none∧s.len=0∧s.cap=0∧xs=[])∨
 ∃ A cs st vs,s.a=some (A,0)∧s.sz=n∧V A∧A<h.next∧h.g A=some (.row cs st)∧s.len=xs.length∧cs.take vs.length=vs∧De h (fun C=>V C∧C≠A) n xs vs∧s.len≤s.cap∧(st=.grown∨(st=.own∧s.cap * n=cs.length))
section
variable {E:Env} {V:Nat→Prop} {h h':Heap} {s:SL} {n:Nat} {xs:List D} {M:List Nat}
theorem OwV.weak {W:Nat→Prop} (x:OwV V h s n xs) (hW:∀ C,V C→C<h.next→W C):OwV W h s n xs:=by
 rcases x with h1 | ⟨A,cs,st,vs,h1,h2,h3,h4,h5,h6,h7,h8,h9⟩
 ·exact .inl h1
 ·exact .inr ⟨A,cs,st,vs,h1,h2,hW A h3 h4,h4,h5,h6,h7,De.weak (fun C hC hl=>⟨hW C hC.1 hl,hC.2⟩) h8,h9⟩
theorem OwV.nil (V:Nat→Prop) (h:Heap) (z n:Nat):OwV V h ⟨none,0,0,z⟩ n []:=.inl ⟨rfl,rfl,rfl,rfl⟩
theorem OwV.len (x:OwV V h s n xs):s.len=xs.length:=by
 rcases x with ⟨_,h1,_,rfl⟩ | ⟨A,cs,st,vs,_,_,_,_,_,h1,_⟩
 ·exact h1
 ·exact h1
theorem OwV.ge (x:OwV V h s n xs):∀ A,s.blk=some A→V A∧A<h.next:=by
 intro A hA;rcases x with ⟨h1,_⟩ | ⟨A',cs,st,vs,h1,_,h3,h4,_⟩
 ·simp [SL.blk,h1] at hA
 ·simp [SL.blk,h1] at hA;subst hA;exact ⟨h3,h4⟩
theorem OwV.sl (x:OwV V h s n xs):Sl h V s xs:=by
 rcases x with ⟨h1,h2,h3,rfl⟩ | ⟨A,cs,st,vs,h1,h2,h3,h4,h5,h6,h7,h8,h9,h10⟩
 ·exact ⟨h2,by omega,fun A hA=>by simp [SL.blk,h1] at hA,[],⟨by simp [h2],fun _=>h2,fun A off ha=>by rw [h1] at ha;cases ha⟩,by simp [De]⟩
 ·refine ⟨h6,h9,fun C hC=>?_,vs,⟨?_,fun ha=>(by rw [h1] at ha;cases ha),fun A' off ha=>?_⟩,?_⟩
  ·simp [SL.blk,h1] at hC;subst hC;exact h3
  ·rw [h8.length,h6,h2]
  ·rw [h1] at ha
   simp only [Option.some.injEq,Prod.mk.injEq] at ha;obtain ⟨rfl,rfl⟩:=ha;refine ⟨h4,cs,?_,by rw [List.drop_zero];exact h7⟩;rw [h5];rcases h10 with rfl | ⟨rfl,_⟩ <;> rfl
  ·rw [h2];exact De.weak (fun C hC _=>hC.1) h8
theorem OwV.chg (x:OwV V h s n xs) (c:Chg M h h') (hM:∀ A,V A→A<h.next→A ∉ M):OwV V h' s n xs:=by
 rcases x with h1 | ⟨A,cs,st,vs,h1,h2,h3,h4,h5,h6,h7,h8,h9⟩
 ·exact .inl h1
 ·refine .inr ⟨A,cs,st,vs,h1,h2,h3,Nat.lt_of_lt_of_le h4 c.next,by rw [c.g A h4 (hM A h3 h4)];exact h5,h6,h7,?_,h9⟩
  have h8':De h (fun C=>(V C∧C≠A)∧C<h.next) n xs vs:=De.weak (fun C hC hl=>⟨hC,hl⟩) h8;exact De.weak (fun C hC _=>hC.1) (De.chg c (fun C hC=>hM C hC.1.1 hC.2) h8')
theorem dI {st e:TypeId} {W:Nat} (ha:AppN E st e n W) (hn:0<n) (x:OwV V h s n xs) {d:D} {cs:List AV} (hd:Dt h (fun C=>V C∧s.blk≠some C) d cs) (hcs:cs.length=n) (hB:∀ A,h.next≤A→V A) (hl:(xs.length+1) * W≤1073741824) :
  ∃ s' h',iB E st st (.slice s.a s.len s.cap s.sz) (.slice (some (h.next,0)) 1 1 n) (h.push (.row cs .own))=some (.slice s'.a s'.len s'.cap s'.sz,h')∧OwV V h' s' n (xs++[d])∧Chg (s.blk.toList) h h'∧(∀ A,s'.blk=some A→s.blk=some A∨h.next≤A):=by
 obtain ⟨hu,⟨i,hi,hi1,hi2⟩,⟨z,hz,hz1⟩⟩:=ha;have hr:(h.push (.row cs .own)).read h.next 0 (1 * n)=some cs:=by
  have:(h.push (.row cs .own)).row h.next=some cs:=(Heap.is_push h cs).row
  simp only [Heap.read,this,List.drop_zero,Nat.one_mul];rw [vI _ _ (by omega),List.take_of_length_le (by omega)]
 have hlen:=x.len;have hroom:Nat.ble ((s.len+1) * (i.bytes+i.size+1)) bT=true:=by
  have h1:(s.len+1) * (i.bytes+i.size+1)≤(xs.length+1) * W:=Nat.mul_le_mul (by omega) (by omega);simp only [bT,Nat.ble_eq];omega
 have hsz:(Nat.beq s.sz i.size||s.a.isNone)=true:=by
  rcases x with ⟨h1,_⟩ | ⟨A,cs,st',vs,h1,h2,_⟩
  ·simp [h1]
  ·simp [hi1,h2]
 have hall:cs.all AV.single=true:=by rw [List.all_eq_true];exact hd.single
 have key:∀ K,gL (h.push (.row cs .own)) s.a s.len s.cap n 1 cs=K→iB E st st (.slice s.a s.len s.cap s.sz) (.slice (some (h.next,0)) 1 1 n) (h.push (.row cs .own))=K:=by
  intro K hK;have hz2:Nat.beq z.cells.length i.size=true:=by rw [hz1,hi1];exact Nat.beq_refl _
  have hnl:Nat.beq cs.length (1 * i.size)=true:=by rw [hi1,hcs,Nat.one_mul];exact Nat.beq_refl _
  simp only [iB,hu,uQ,yA4,cond_false,hi,hz,dK,nE];rw [hi1] at hroom hsz hz2 hnl ⊢;simp only [hr,show Nat.beq 1 0=false from rfl,cond_false,hroom,hsz,hz2,hnl,hall,Bool.and_self,cond_true];exact hK
 have hd0:Dt h (fun C=>(V C∧s.blk≠some C)∧C<h.next) d cs:=hd.weak fun C hC hl=>⟨hC,hl⟩;rcases x with ⟨h1,h2,h3,rfl⟩ | ⟨A,bs,st',vs,h1,h2,h3,h4,h5,h6,h7,h8,h9,h10⟩
 ·have c0:Chg [] h ((h.push (.row cs .own)).push (.row cs .grown)):=((Chg.refl [] h).push _).push _
  refine ⟨⟨some (h.next+1,0),1,1,n⟩,(h.push (.row cs .own)).push (.row cs .grown),key _ (by simp only [gL,h1,h2];rfl),.inr ⟨h.next+1,cs,.grown,cs,rfl,rfl,hB _ (by omega),by simp,mH _ rfl,rfl,by simp,?_,Nat.le_refl _,.inl rfl⟩,c0.mono (by simp),fun A hA=>.inr (by simp [SL.blk] at hA;omega)⟩;simp only [List.nil_append,De];exact ⟨cs,[],by simp,hcs,Dt.weak (fun C hC _=>⟨hC.1.1,by omega⟩) (Dt.chg c0 (by simp) hd0),rfl⟩
 ·have hvl:=h8.length
  have hbl:s.blk=some A:=by simp [SL.blk,h1]
  have hcl:vs.length≤bs.length:=by
   have:(bs.take vs.length).length=vs.length:=by rw [h7]
   rw [List.length_take] at this;omega
  have hg:(h.push (.row cs .own)).t.get A=some (.row bs st'):=by
   have:=qA1 (h:=h) (A:=A) (.row cs .own) (by omega)
   unfold Heap.g at this h5;rw [this,h5]
  have h8':De h (fun C=>(V C∧C≠A)∧C<h.next) n xs vs:=De.weak (fun C hC hl=>⟨hC,hl⟩) h8;have hd':Dt h (fun C=>(V C∧C≠A)∧C<h.next) d cs:=Dt.weak (fun C hC hl=>⟨⟨hC.1,fun e=>hC.2 (by rw [hbl,e])⟩,hl⟩) hd;have hall2:=h8'.snoc hd' hcs;have htk:takeN (s.len * n) bs=some vs:=by rw [vI _ _ (by rw [h6];omega),h6,← hvl,h7]
  -- a new block
  have fresh:∀ H:Heap,H.next=h.next+1→Chg [A] h H→OwV V (H.push (.row (vs++cs) .grown)) ⟨some (h.next+1,0),s.len+1,s.len+1,n⟩ n (xs++[d]):=by
   intro H hH cH;refine .inr ⟨h.next+1,vs++cs,.grown,vs++cs,rfl,rfl,hB _ (by omega),by simp [hH],mH _ hH.symm,by simp [h6],List.take_of_length_le (Nat.le_refl _),?_,Nat.le_refl _,.inl rfl⟩;exact De.weak (fun C hC _=>⟨hC.1.1,by omega⟩) (De.chg (cH.push _) (fun C hC=>by simp;exact hC.1.2) hall2)
  rcases h10 with rfl | ⟨rfl,h10⟩
  ·have cH:Chg [A] h ((h.push (.row cs .own)).put A (.row bs .dead)):=((Chg.refl [A] h).push _).put (.inl (by simp)) _
   refine ⟨⟨some (h.next+1,0),s.len+1,s.len+1,n⟩,((h.push (.row cs .own)).put A (.row bs .dead)).push (.row (vs++cs) .grown),key _ ?_,fresh _ rfl cH,(cH.push _).mono (by simp [hbl]),fun C hC=>.inr (by simp [SL.blk] at hC;omega)⟩;simp only [gL,h1,hg,List.drop_zero,htk];rfl
  ·by_cases hc:s.len+1≤s.cap
   ·have hb1:Nat.ble (s.len+1) s.cap=true:=by simpa using hc
    have hroom2:s.len * n+cs.length≤bs.length:=by
     rw [hcs,← Nat.succ_mul,← h10];exact Nat.mul_le_mul_right _ hc
    have hov:=wA1 bs cs (s.len * n) hroom2;have cH:Chg [A] h ((h.push (.row cs .own)).put A (.row (bs.take (s.len * n)++cs++bs.drop (s.len * n+cs.length)) .own)):=((Chg.refl [A] h).push _).put (.inl (by simp)) _;have e1:bs.take (s.len * n)=vs:=by rw [h6,← hvl,h7]
    refine ⟨⟨some (A,0),s.len+1,s.cap,n⟩,_,key _ ?_,.inr ⟨A,_,.own,vs++cs,rfl,rfl,h3,by simp;omega,yT _ rfl,by simp [h6],?_,?_,hc,.inr ⟨rfl,?_⟩⟩,cH.mono (by simp [hbl]),fun C hC=>.inl (by simp [SL.blk] at hC;rw [hbl,hC])⟩
    ·simp only [gL,h1,hg,List.drop_zero,htk,hb1,cond_true,Nat.zero_add,hov]
    ·rw [e1,List.append_assoc,← List.append_assoc,List.take_append_of_le_length (Nat.le_refl _),List.take_of_length_le (Nat.le_refl _)]
    ·exact De.weak (fun C hC _=>hC.1) (De.chg cH (fun C hC=>by simp;exact hC.1.2) hall2)
    ·show s.cap * n=_
     rw [h10];simp only [List.length_append,List.length_take,List.length_drop];omega
   ·have hb1:Nat.ble (s.len+1) s.cap=false:=by
     cases hx:Nat.ble (s.len+1) s.cap with
     | false=>rfl
     | true=>exact absurd (by simpa using hx) hc
    have cH:Chg [A] h (h.push (.row cs .own)):=(Chg.refl [A] h).push _;refine ⟨⟨some (h.next+1,0),s.len+1,s.len+1,n⟩,(h.push (.row cs .own)).push (.row (vs++cs) .grown),key _ ?_,fresh _ rfl cH,(cH.push _).mono (by simp [hbl]),fun C hC=>.inr (by simp [SL.blk] at hC;omega)⟩;simp only [gL,h1,hg,List.drop_zero,htk,hb1,cond_false];rfl
end
end Ai
namespace Qp
section
variable {T:List Tok} {P:Nat} {X:List Nat} {st:Int} {h0 h h' h6:Heap} {O Q n j:Nat} {row:SL→List AV} {xs:List D} {σ σ':St}
theorem CI.close2 {i:Nat} (f:CF P X h0 O Q n j row) (x:CI T P X st h0 O Q n row h xs (i,none)) {v:SL} (o1:h.own O (row v)) (w1:Ow h0.next h v n xs) {t e:TypeId} {W:Nat} (ha:AppN E t e n W) (hn:0<n) (hW:W≤10000000) (hl:xs.length≤64) (c:Chg [P] h h6) (y:PC T P (v.blk.toList++X) h6 σ' st) {d:D} {cs:List AV} (hd:Dt h6 (fun C=>h.next≤C) d cs) (hcs:cs.length=n) :
  ∃ v' h13,(∀ {β:Type} (K:SL→Heap→Option β),aE (.val zL2) (iB E t t (.slice v.a v.len v.cap v.sz) (.slice (some (h6.next,0)) 1 1 n) (h6.push (.row cs .own))) K=K v' h13)∧h13.store (O,j) [.slice v'.a v'.len v'.cap v'.sz]=some (h13.put O (.row (row v') .own))∧CI T P X st h0 O Q n row (h13.put O (.row (row v') .own)) (xs++[d]) σ'∧h6.cell (O,j)=some (.slice v.a v.len v.cap v.sz)∧(h6.push (.row cs .own)).cell (O,j)=some (.slice v.a v.len v.cap v.sz)∧Chg v.blk.toList h6 h13∧(∀ A∈v.blk.toList,h0.next≤A):=by
 have hO:=f.o;have hQ:=f.q;have hlt:∀ A,v.blk=some A→h0.next≤A∧A<h.next:=w1.ge;have c06:Chg [P,O] h0 h6:=x.chg.trans (c.mono (by simp));have o6:h6.own O (row v):=o1.chg c (by simp;omega);have w6:Ow h0.next h6 v n xs:=w1.chg c (by intro A hA;rw [List.mem_singleton] at hA;omega);have hn0:=x.chg.next;have hd6:Dt h6 (fun C=>h0.next≤C∧v.blk≠some C) d cs:=hd.weak fun C hC _=>⟨by omega,fun e=>by have:=hlt C e;omega⟩;have hll:(xs.length+1) * W≤1073741824:=by
  have:(xs.length+1) * W≤65 * 10000000:=Nat.mul_le_mul (by omega) hW
  omega
 obtain ⟨v',h13,e',w',c',hb⟩:=bAs ha hn c06 w6 hd6 hcs hll;have hge:∀ A∈v.blk.toList,h0.next≤A∧A<h.next:=fun A hA=>hlt A (by simpa using hA);have o13:h13.own O (row v):=o6.chg c' (fun hm=>by have:=hge O hm;omega);have hjl:j<(row v).length:=(List.getElem?_eq_some_iff.1 (f.rj v)).1;have hst:h13.store (O,j) [SL.av v']=some (h13.put O (.row ((row v).set j (SL.av v')) .own)):=o13.store1 hjl _;rw [f.rs] at hst;have cp:=o13.put (row v');have y13:=y.chgM c' (fun A hA=>List.mem_append_left _ hA);have y':=y13.chg1 cp (List.mem_append_right _ f.x);have c013:Chg [P,O] h0 h13:=c06.step c' (fun A hA hlt'=>by have:=hge A hA;omega);refine ⟨v',h13,fun K=>e' K,hst,⟨y'.sub fun A hA=>List.mem_append_right _ hA,c013.trans (cp.mono (by simp)),((x.q.chg c (by simp;omega)).chg c' fun hm=>?_).chg cp (by simp;omega),v',yA o13 _,w'.chg cp (by intro A hA;rw [List.mem_singleton] at hA;omega)⟩,by rw [o6.cell j,f.rj v];rfl,by rw [(o6.chg (qA h6 _) (by simp)).cell j,f.rj v];rfl,c',fun A hA=>(hge A hA).1⟩
 have:=hge Q hm;omega
end
def lL (T:List Tok) (σ:St):List D×St:=
 let b:=jB T [41] (uC T [40] σ)
 if b.1=true then ([],b.2) else let l:=iD T (kE T) [44] b.2;(l.1,uC T [41] l.2)
def tQ (T:List Tok) (σ:St):D×St:=
 let a:=pB T 1 σ
 let o:=kE T (uC T [58] a.2)
 (.t [.s a.1,o.1],o.2)
def fN (T:List Tok) (σ:St):List D×St:=
 let b:=jB T [125] (uC T [123] σ)
 if b.1=true then ([],b.2) else let l:=iD T (tQ T) [44] b.2;(l.1,uC T [125] l.2)
def d1:D→D | .t (a::_)=>a | _=>.i 0
def d2:D→D | .t (_::b::_)=>b | _=>.i 0
theorem jAs:AppN E 102 101 4 1000:=AppN.of (by kernel_rfl)
structure CVI (T:List Tok) (P:Nat) (X:List Nat) (st:Int) (h0:Heap) (O Q V off n:Nat) (row:SL→List AV) (h:Heap) (xs:List D) (σ:St):Prop where
 ci:CI T P X st h0 O Q n row h xs σ
 v:h.own V [.ptr (some (O,off))]
section
variable {N:Nat} {T:List Tok} {P:Nat} {X:List Nat} {st:Int} {h:Heap} {σ:St}
theorem lR (P:zJ2) (sep:Bs) (V Q:zJ2):∀ (M:Nat) (n:Int) (h:Heap),qM N M P sep (V,Q,()) n h=eN N P sep (fun h=>f235 N V Q h) M n h
 | 0,n,h=>rfl
 | M+1,n,h=>by
  rw [iZ];unfold pM;simp only [eN];simp only [lR P sep V Q M]
theorem mR (P:zJ2) (sep:Bs) (V Q:zJ2):∀ (M:Nat) (n:Int) (h:Heap),oM N M P sep (V,Q,()) n h=eN N P sep (fun h=>f256 N V Q h) M n h
 | 0,n,h=>rfl
 | M+1,n,h=>by
  rw [gZ];unfold nM;simp only [eN];simp only [mR P sep V Q M]
theorem eB4 (hT:Toks T) (hN:100≤N) {h0:Heap} {O Q V off:Nat} {row:SL→List AV} (f:CF P X h0 O Q 4 (off+14) row) (hV:V≠P∧V≠O∧V<h0.next) {xs:List D} {i:Nat} (x:CVI T P X st h0 O Q V off 4 row h xs (i,none)) (hl:xs.length≤64):∃ h',f235 N (some (V,0)) (some (Q,0)) h=some ((),h')∧CVI T P X st h0 O Q V off 4 row h' (xs++[(kE T (i,none)).1]) (kE T (i,none)).2:=by
 unfold f235;obtain ⟨v,o1,w1,y,r1,r2⟩:=x.ci.open f;obtain ⟨r,h6,e6,x6,c6,d6⟩:=pS (N:=N) hT hN y;obtain ⟨v',h13,eA,eS,ci,g1,g2,cB,hge⟩:=x.ci.close2 f o1 w1 jAs (by decide) (by decide) hl c6 x6 d6 rfl;have vV6:=x.v.chg c6 (by simp;omega);have vV11:=vV6.chg (qA h6 (.row (opc r) .own)) (by simp);have vV13:=vV6.chg cB (fun hm=>by have:=hge V hm;omega);have k0:h.cell (V,0)=some (.ptr (some (O,off))):=x.v.cell 0;have k6:h6.cell (V,0)=some (.ptr (some (O,off))):=vV6.cell 0;have k11:(h6.push (.row [(.int .i64 r.1),(.int .i64 r.2.1),(.str r.2.2.1),(.slice r.2.2.2.1.a r.2.2.2.1.len r.2.2.2.1.cap r.2.2.2.1.sz)] .own)).cell (V,0)=some (.ptr (some (O,off))):=vV11.cell 0;have k13:h13.cell (V,0)=some (.ptr (some (O,off))):=vV13.cell 0;have g2':(h6.push (.row [(.int .i64 r.1),(.int .i64 r.2.1),(.str r.2.2.1),(.slice r.2.2.2.1.a r.2.2.2.1.len r.2.2.2.1.cap r.2.2.2.1.sz)] .own)).cell (O,off+14)=some (.slice v.a v.len v.cap v.sz):=g2;have eA':∀ {β:Type} (K:SL→Heap→Option β),aE (.val zL2) (iB E 102 102 (.slice v.a v.len v.cap v.sz) (.slice (some (h6.next,0)) 1 1 4) (h6.push (.row [(.int .i64 r.1),(.int .i64 r.2.1),(.str r.2.2.1),(.slice r.2.2.2.1.a r.2.2.2.1.len r.2.2.2.1.cap r.2.2.2.1.sz)] .own))) K=K v' h13:=eA;simp only [dA,k0,r1,r2,fA,uA,qB];rw [e6,aA];rw [eA',eS,dA];simp only [fF,r2,g2',g1,r1,k0,k6,k11,k13,wC,cond_true,aC];exact ⟨_,rfl,ci,vV13.chg (by
  obtain ⟨_,o13,_⟩:=ci.ex;exact (Chg.refl [O] h13).put (.inl (by simp)) _) (by simp;omega)⟩
theorem kAs (hT:Toks T) (hN:100≤N) {h0:Heap} {O Q V off:Nat} {row:SL→List AV} (f:CF P X h0 O Q 4 (off+14) row) (hV:V≠P∧V≠O∧V<h0.next) (x:CVI T P X st h0 O Q V off 4 row h0 [] σ):∃ h',vZ N (some (P,0)) [44] ((some (V,0)),(some (Q,0)),()) h0=some ((),h')∧CVI T P X st h0 O Q V off 4 row h' (iD T (kE T) [44] σ).1 (iD T (kE T) [44] σ).2:=by
 unfold vZ;obtain ⟨o,h',e,y⟩:=fQ (N:=N) hT hN (F:=fun h=>f235 N (some (V,0)) (some (Q,0)) h) (one:=kE T) (Inv:=CVI T P X st h0 O Q V off 4 row) (fun h xs σ c=>c.ci.pc) (fun h h' xs σ σ' c d z=>⟨c.ci.step f d z,c.v.chg d (by simp;omega)⟩) (fun h xs i c hl=>eB4 hT hN f hV c hl) (sep:=[44]) (by decide) x;simp only [lR];rw [e];simp only [uB];cases gE o (.exit 0) <;> exact ⟨h',rfl,y⟩
theorem lAs (hT:Toks T) (hN:100≤N) (x:PC T P X h σ st) {O off:Nat} {row:SL→List AV} (hO:P<O) (hX:O∈X) (rj:∀ v,(row v)[off+14]? = some (SL.av v)) (rs:∀ v v',(row v).set (off+14) (SL.av v')=row v') (oO:h.own O (row sl0)):∃ v h',f223 N (some (P,0)) (some (O,off)) h=some ((),h')∧PC T P X h' (lL T σ).2 st∧Chg [P,O] h h'∧h'.own O (row v)∧Sl h' (fun C=>h.next≤C) v (lL T σ).1:=by
 unfold f223;have hP:=x.P_lt;have hOl:=oO.2;have oQ:=vA h [AV.ptr (some (P,0))];have cQ:=qA h (.row [AV.ptr (some (P,0))] .own);have nQ:(h.push (.row [AV.ptr (some (P,0))] .own)).next=h.next+1:=rfl;dsimp only;generalize h.push (.row [AV.ptr (some (P,0))] .own)=h1 at *;have oV:=vA h1 [AV.ptr (some (O,off))];have cV:=qA h1 (.row [AV.ptr (some (O,off))] .own);have nV:(h1.push (.row [AV.ptr (some (O,off))] .own)).next=h1.next+1:=rfl;have x2:=x.chg (cQ.trans cV);have oQ2:=oQ.chg cV (by simp);have oO2:=oO.chg (cQ.trans cV) (by simp);have c02:=cQ.trans cV;generalize h1.push (.row [AV.ptr (some (O,off))] .own)=h2 at *;have r2:h2.cell (h.next,0)=some (.ptr (some (P,0))):=oQ2.cell 0;simp only [r2,fA,qB];obtain ⟨h5,e5,c5,x5⟩:=gG (N:=N) hT x2 (w:=[40]) (by decide);rw [e5,aA];have oQ5:=oQ2.chg c5 (by simp;omega);have r5:h5.cell (h.next,0)=some (.ptr (some (P,0))):=oQ5.cell 0;simp only [r5,fA,qB];obtain ⟨h8,e8,c8,x8⟩:=qI (N:=N) hT x5 (w:=[41]) (by decide);rw [e8,aA];have c58:=c5.trans c8;have oQ8:=oQ5.chg c8 (by simp;omega);have oV8:=oV.chg c58 (by simp;omega);have oO8:=oO2.chg c58 (by simp;omega);have hn8:=c58.next;have c08:Chg [P] h h8:=(c02.mono (by simp)).trans c58;simp only [lL]
 cases hb:(jB T [41] (uC T [40] σ)).1 with
 | true=>
  simp only [Bool.not_true,cond_false,if_true];exact ⟨sl0,h8,rfl,x8,c08.mono (by simp),oO8,Sl.nil _ _ _⟩
 | false=>
  simp only [Bool.not_false,cond_true,Bool.false_eq_true,if_false];have r8:h8.cell (h.next,0)=some (.ptr (some (P,0))):=oQ8.cell 0;simp only [r8,fA,qB];have f:CF P X h8 O h.next 4 (off+14) row:=⟨by omega,by omega,hX,rj,rs⟩;obtain ⟨h12,e12,cv⟩:=kAs (N:=N) hT hN (V:=h1.next) (off:=off) f (by omega) ⟨⟨x8,Chg.refl _ _,oQ8,sl0,oO8,Ow.nil _ _ _ _⟩,oV8⟩;rw [e12,aA];obtain ⟨v,oO12,w12⟩:=cv.ci.ex;have r12:h12.cell (h.next,0)=some (.ptr (some (P,0))):=cv.ci.q.cell 0;simp only [r12,fA,qB];obtain ⟨h15,e15,c15,x15⟩:=gG (N:=N) hT cv.ci.pc (w:=[41]) (by decide);rw [e15,aA];have w15:=w12.chg c15 (by intro A hA;rw [List.mem_singleton] at hA;omega);exact ⟨v,h15,rfl,x15,((c08.mono (N:=[P,O]) (by simp)).trans cv.ci.chg).trans (c15.mono (by simp)),oO12.chg c15 (by simp;omega),w15.sl.weak (fun C hC _=>by omega)⟩
end
end Qp
namespace Qp
structure MF (P:Nat) (X:List Nat) (h0:Heap) (O Q V off:Nat) (row:SL→SL→List AV):Prop where
 o:P<O∧O<h0.next
 q:Q≠P∧Q≠O∧Q<h0.next
 v:V≠P∧V≠O∧V<h0.next
 x:O∈X
 rj:∀ v w,(row v w)[off+13]? = some (SL.av v)
 rk:∀ v w,(row v w)[off+14]? = some (SL.av w)
 rs:∀ v w v',(row v w).set (off+13) (SL.av v')=row v' w
 rt:∀ v w w',(row v w).set (off+14) (SL.av w')=row v w'
structure MI (T:List Tok) (P:Nat) (X:List Nat) (st:Int) (h0:Heap) (O Q V off:Nat) (row:SL→SL→List AV) (h:Heap) (zs:List D) (σ:St):Prop where
 pc:PC T P X h σ st
 chg:Chg [P,O] h0 h
 q:h.own Q [.ptr (some (P,0))]
 v:h.own V [.ptr (some (O,off))]
 ex:∃ v w,h.own O (row v w)∧OwV (fun C=>h0.next≤C∧w.blk≠some C) h v 1 (zs.map d1)∧OwV (fun C=>h0.next≤C∧v.blk≠some C) h w 4 (zs.map d2)
section
variable {N:Nat} {T:List Tok} {P:Nat} {X:List Nat} {st:Int} {h0 h h':Heap} {O Q V off:Nat} {row:SL→SL→List AV} {zs:List D} {σ σ':St}
theorem MI.step (f:MF P X h0 O Q V off row) (x:MI T P X st h0 O Q V off row h zs σ) (c:Chg [P] h h') (y:PC T P X h' σ' st):MI T P X st h0 O Q V off row h' zs σ':=by
 obtain ⟨v,w,o1,w1,w2⟩:=x.ex
 have:=f.o;have:=f.q;have:=f.v
 exact ⟨y,x.chg.trans (c.mono (by simp)),x.q.chg c (by simp;omega),x.v.chg c (by simp;omega),v,w,o1.chg c (by simp;omega),w1.chg c (by intro C hC _;simp;omega),w2.chg c (by intro C hC _;simp;omega)⟩
theorem fB4 (hT:Toks T) (hN:100≤N) (f:MF P X h0 O Q V off row) {i:Nat} (x:MI T P X st h0 O Q V off row h zs (i,none)) (hl:zs.length≤64):∃ h',f256 N (some (V,0)) (some (Q,0)) h=some ((),h')∧MI T P X st h0 O Q V off row h' (zs++[(tQ T (i,none)).1]) (tQ T (i,none)).2:=by
 unfold f256;have hO:=f.o;have hQ:=f.q;have hV:=f.v;obtain ⟨v,w,o1,w1,w2⟩:=x.ex;have hv:∀ A∈v.blk.toList,h0.next≤A∧A<h.next∧w.blk≠some A:=fun A hA=>by
  have:=w1.ge A (by simpa using hA);exact ⟨this.1.1,this.2,this.1.2⟩
 have hw:∀ A∈w.blk.toList,h0.next≤A∧A<h.next∧v.blk≠some A:=fun A hA=>by
  have:=w2.ge A (by simpa using hA);exact ⟨this.1.1,this.2,this.1.2⟩
 have y:PC T P (v.blk.toList++(w.blk.toList++X)) h (i,none) st:=x.pc.free fun A hA=>by
  rcases List.mem_append.1 hA with hA | hA
  ·have:=hv A hA;omega
  ·rcases List.mem_append.1 hA with hA | hA
   ·have:=hw A hA;omega
   ·exact x.pc.pa.xl A hA
 have hn0:=x.chg.next;have kV:h.cell (V,0)=some (.ptr (some (O,off))):=x.v.cell 0;have kQ:h.cell (Q,0)=some (.ptr (some (P,0))):=x.q.cell 0;have kv:h.cell (O,off+13)=some (.slice v.a v.len v.cap v.sz):=by rw [o1.cell,f.rj];rfl
 simp only [dA,kV,kQ,kv,fA,uA,qB];obtain ⟨h10,e10,c10,x10⟩:=rU (N:=N) hT y (k:=1) (by decide);rw [e10,aA];generalize hnm:(pB T 1 (i,none)).1=nm at *;generalize hτ:(pB T 1 (i,none)).2=τ at *;have o10:=o1.chg c10 (by simp;omega);have w1_10:=w1.chg c10 (by intro C hC _;simp;omega);have w2_10:=w2.chg c10 (by intro C hC _;simp;omega);have q10:=x.q.chg c10 (by simp;omega);have v10:=x.v.chg c10 (by simp;omega);have hn10:=c10.next;have hl1:((zs.map d1).length+1) * 100≤1073741824:=by rw [List.length_map];omega
 obtain ⟨v',h13,eA,w1_13,c13,hb13⟩:=dI (cs:=[AV.str nm]) gAm (by decide) w1_10 (uJ h10 _ nm) rfl (fun A hA=>⟨by omega,fun e=>by have:=hw A (by simpa using e);omega⟩) hl1;have hn13:=c13.next;have c11:=qA h10 (.row [AV.str nm] .own);have o11:=o10.chg c11 (by simp);have v11:=v10.chg c11 (by simp);have o13:=o10.chg c13 (fun hm=>by have:=hv O hm;omega);have q13:=q10.chg c13 (fun hm=>by have:=hv Q hm;omega);have v13:=v10.chg c13 (fun hm=>by have:=hv V hm;omega);have w2_13:OwV (fun C=>h0.next≤C∧v'.blk≠some C) h13 w 4 (zs.map d2):=by
  have a1:OwV (fun C=>(h0.next≤C∧v.blk≠some C)∧C<h10.next) h10 w 4 (zs.map d2):=w2_10.weak fun C hC hl=>⟨hC,hl⟩;have a2:=a1.chg c13 (by intro C hC _ hm;exact hC.1.2 (by simpa using hm));exact a2.weak fun C hC _=>⟨hC.1.1,fun e=>by rcases hb13 C e with e | e;exact hC.1.2 e;omega⟩
 rw [eA,lG,uA];have hjl:off+13<(row v w).length:=(List.getElem?_eq_some_iff.1 (f.rj v w)).1;have hst:h13.store (O,off+13) [.slice v'.a v'.len v'.cap v'.sz]=some (h13.put O (.row (row v' w) .own)):=by
  have:=o13.store1 hjl (SL.av v')
  rw [f.rs] at this;exact this
 simp only [dA,hst];have cp:=o13.put (row v' w);have o15:=yA o13 (row v' w);have x13:=x10.chgM c13 (fun A hA=>List.mem_append_left _ hA);have x15:=x13.chg1 cp (List.mem_append_right _ (List.mem_append_right _ f.x));have q15:=q13.chg cp (by simp;omega);have v15:=v13.chg cp (by simp;omega);have w1_15:=w1_13.chg cp (by intro C hC _;simp;omega);have w2_15:=w2_13.chg cp (by intro C hC _;simp;omega);have n15:(h13.put O (.row (row v' w) .own)).next=h13.next:=rfl;have c015:Chg [P,O] h0 (h13.put O (.row (row v' w) .own)):=((x.chg.trans (c10.mono (by simp))).step c13 (fun A hA hl=>by have:=hv A hA;omega)).trans (cp.mono (by simp));generalize h13.put O (.row (row v' w) .own)=h15 at *;have k10V:h10.cell (V,0)=some (.ptr (some (O,off))):=v10.cell 0;have k11V:(h10.push (.row [AV.str nm] .own)).cell (V,0)=some (.ptr (some (O,off))):=v11.cell 0;have k13V:h13.cell (V,0)=some (.ptr (some (O,off))):=v13.cell 0;have k10v:h10.cell (O,off+13)=some (.slice v.a v.len v.cap v.sz):=by rw [o10.cell,f.rj];rfl
 have k11v:(h10.push (.row [AV.str nm] .own)).cell (O,off+13)=some (.slice v.a v.len v.cap v.sz):=by rw [o11.cell,f.rj];rfl
 have k15Q:h15.cell (Q,0)=some (.ptr (some (P,0))):=q15.cell 0;simp only [fF,kQ,kV,kv,k10V,k11V,k13V,k10v,k11v,wC,cond_true,aC,k15Q,fA,qB];obtain ⟨h19,e19,c19,x19⟩:=gG (N:=N) hT x15 (w:=[58]) (by decide);rw [e19,aA];have o19:=o15.chg c19 (by simp;omega);have q19:=q15.chg c19 (by simp;omega);have v19:=v15.chg c19 (by simp;omega);have w1_19:=w1_15.chg c19 (by intro C hC _;simp;omega);have w2_19:=w2_15.chg c19 (by intro C hC _;simp;omega);have hn19:=c19.next;have k19V:h19.cell (V,0)=some (.ptr (some (O,off))):=v19.cell 0;have k19Q:h19.cell (Q,0)=some (.ptr (some (P,0))):=q19.cell 0;have k19w:h19.cell (O,off+14)=some (.slice w.a w.len w.cap w.sz):=by rw [o19.cell,f.rk];rfl
 simp only [dA,k19V,k19Q,k19w,fA,uA,qB];obtain ⟨r,h29,e29,x29,c29,d29⟩:=pS (N:=N) hT hN x19;rw [e29,aA];have o29:=o19.chg c29 (by simp;omega);have q29:=q19.chg c29 (by simp;omega);have v29:=v19.chg c29 (by simp;omega);have w1_29:=w1_19.chg c29 (by intro C hC _;simp;omega);have w2_29:=w2_19.chg c29 (by intro C hC _;simp;omega);have hn29:=c29.next;have hv':∀ A∈v'.blk.toList,A<h15.next:=fun A hA=>(w1_15.ge A (by simpa using hA)).2;have hl2:((zs.map d2).length+1) * 1000≤1073741824:=by rw [List.length_map];omega
 obtain ⟨w',h32,eB,w2_32,c32,hb32⟩:=dI (cs:=opc r) jAs (by decide) w2_29 (d29.weak fun C hC _=>⟨⟨by omega,fun e=>by have:=hv' C (by simpa using e);omega⟩,fun e=>by have:=hw C (by simpa using e);omega⟩) rfl (fun A hA=>⟨by omega,fun e=>by have:=hv' A (by simpa using e);omega⟩) hl2;have eB':iB E 102 102 (.slice w.a w.len w.cap w.sz) (.slice (some (h29.next,0)) 1 1 4) (h29.push (.row [(.int .i64 r.1),(.int .i64 r.2.1),(.str r.2.2.1),(.slice r.2.2.2.1.a r.2.2.2.1.len r.2.2.2.1.cap r.2.2.2.1.sz)] .own))=some (.slice w'.a w'.len w'.cap w'.sz,h32):=eB;rw [eB',lG,uA];have c30:=qA h29 (.row (opc r) .own);have o30:=o29.chg c30 (by simp);have v30:=v29.chg c30 (by simp);have o32:=o29.chg c32 (fun hm=>by have:=hw O hm;omega);have q32:=q29.chg c32 (fun hm=>by have:=hw Q hm;omega);have v32:=v29.chg c32 (fun hm=>by have:=hw V hm;omega);have w1_32:OwV (fun C=>h0.next≤C∧w'.blk≠some C) h32 v' 1 (zs.map d1++[.s nm]):=by
  have a1:OwV (fun C=>(h0.next≤C∧w.blk≠some C)∧C<h29.next) h29 v' 1 (zs.map d1++[.s nm]):=w1_29.weak fun C hC hl=>⟨hC,hl⟩;have a2:=a1.chg c32 (by intro C hC _ hm;exact hC.1.2 (by simpa using hm));exact a2.weak fun C hC _=>⟨hC.1.1,fun e=>by rcases hb32 C e with e | e;exact hC.1.2 e;omega⟩
 have hkl:off+14<(row v' w).length:=(List.getElem?_eq_some_iff.1 (f.rk v' w)).1;have hst2:h32.store (O,off+14) [.slice w'.a w'.len w'.cap w'.sz]=some (h32.put O (.row (row v' w') .own)):=by
  have:=o32.store1 hkl (SL.av w')
  rw [f.rt] at this;exact this
 simp only [hst2,dA];have k29V:h29.cell (V,0)=some (.ptr (some (O,off))):=v29.cell 0;have k30V:(h29.push (.row [(.int .i64 r.1),(.int .i64 r.2.1),(.str r.2.2.1),(.slice r.2.2.2.1.a r.2.2.2.1.len r.2.2.2.1.cap r.2.2.2.1.sz)] .own)).cell (V,0)=some (.ptr (some (O,off))):=v30.cell 0;have k32V:h32.cell (V,0)=some (.ptr (some (O,off))):=v32.cell 0;have k29w:h29.cell (O,off+14)=some (.slice w.a w.len w.cap w.sz):=by rw [o29.cell,f.rk];rfl
 have k30w:(h29.push (.row [(.int .i64 r.1),(.int .i64 r.2.1),(.str r.2.2.1),(.slice r.2.2.2.1.a r.2.2.2.1.len r.2.2.2.1.cap r.2.2.2.1.sz)] .own)).cell (O,off+14)=some (.slice w.a w.len w.cap w.sz):=by
  have:=o30.cell (off+14)
  rw [f.rk] at this;exact this
 simp only [k19V,k19Q,k19w,k29V,k30V,k32V,k29w,k30w,wC,cond_true,aC];have cp2:=o32.put (row v' w');have x32:=x29.chgM c32 (fun A hA=>List.mem_append_right _ (List.mem_append_left _ hA));have x34:=x32.chg1 cp2 (List.mem_append_right _ (List.mem_append_right _ f.x));have c034:Chg [P,O] h0 (h32.put O (.row (row v' w') .own)):=((c015.trans ((c19.trans c29).mono (by simp))).step c32 (fun A hA hl=>by have:=hw A hA;omega)).trans (cp2.mono (by simp));simp only [tQ,hnm,hτ];refine ⟨_,rfl,x34.sub (fun A hA=>List.mem_append_right _ (List.mem_append_right _ hA)),c034,q32.chg cp2 (by simp;omega),v32.chg cp2 (by simp;omega),v',w',yA o32 _,?_,?_⟩
 ·rw [List.map_append]
  exact w1_32.chg cp2 (by intro C hC _;simp;omega)
 ·rw [List.map_append]
  exact w2_32.chg cp2 (by intro C hC _;simp;omega)
theorem mAs (hT:Toks T) (hN:100≤N) (f:MF P X h0 O Q V off row) (x:MI T P X st h0 O Q V off row h0 [] σ):∃ h',uZ N (some (P,0)) [44] ((some (V,0)),(some (Q,0)),()) h0=some ((),h')∧MI T P X st h0 O Q V off row h' (iD T (tQ T) [44] σ).1 (iD T (tQ T) [44] σ).2:=by
 unfold uZ;obtain ⟨o,h',e,y⟩:=fQ (N:=N) hT hN (F:=fun h=>f256 N (some (V,0)) (some (Q,0)) h) (one:=tQ T) (Inv:=MI T P X st h0 O Q V off row) (fun h xs σ c=>c.pc) (fun h h' xs σ σ' c d z=>c.step f d z) (fun h xs i c hl=>fB4 hT hN f c hl) (sep:=[44]) (by decide) x;simp only [mR];rw [e];simp only [uB];cases gE o (.exit 0) <;> exact ⟨h',rfl,y⟩
theorem gB4 (hT:Toks T) (hN:100≤N) (x:PC T P X h σ st) (hO:P<O) (hX:O∈X) (rj:∀ v w,(row v w)[off+13]? = some (SL.av v)) (rk:∀ v w,(row v w)[off+14]? = some (SL.av w)) (rs:∀ v w v',(row v w).set (off+13) (SL.av v')=row v' w) (rt:∀ v w w',(row v w).set (off+14) (SL.av w')=row v w') (oO:h.own O (row sl0 sl0)):∃ v w h',f244 N (some (P,0)) (some (O,off)) h=some ((),h')∧PC T P X h' (fN T σ).2 st∧Chg [P,O] h h'∧h'.own O (row v w)∧Sl h' (fun C=>h.next≤C) v ((fN T σ).1.map d1)∧Sl h' (fun C=>h.next≤C) w ((fN T σ).1.map d2):=by
 unfold f244;have hP:=x.P_lt;have hOl:=oO.2;have oQ:=vA h [AV.ptr (some (P,0))];have cQ:=qA h (.row [AV.ptr (some (P,0))] .own);have nQ:(h.push (.row [AV.ptr (some (P,0))] .own)).next=h.next+1:=rfl;dsimp only;generalize h.push (.row [AV.ptr (some (P,0))] .own)=h1 at *;have oV:=vA h1 [AV.ptr (some (O,off))];have cV:=qA h1 (.row [AV.ptr (some (O,off))] .own);have nV:(h1.push (.row [AV.ptr (some (O,off))] .own)).next=h1.next+1:=rfl;have x2:=x.chg (cQ.trans cV);have oQ2:=oQ.chg cV (by simp);have oO2:=oO.chg (cQ.trans cV) (by simp);have c02:=cQ.trans cV;generalize h1.push (.row [AV.ptr (some (O,off))] .own)=h2 at *;have r2:h2.cell (h.next,0)=some (.ptr (some (P,0))):=oQ2.cell 0;simp only [r2,fA,qB];obtain ⟨h5,e5,c5,x5⟩:=gG (N:=N) hT x2 (w:=[123]) (by decide);rw [e5,aA];have oQ5:=oQ2.chg c5 (by simp;omega);have r5:h5.cell (h.next,0)=some (.ptr (some (P,0))):=oQ5.cell 0;simp only [r5,fA,qB];obtain ⟨h8,e8,c8,x8⟩:=qI (N:=N) hT x5 (w:=[125]) (by decide);rw [e8,aA];have c58:=c5.trans c8;have oQ8:=oQ5.chg c8 (by simp;omega);have oV8:=oV.chg c58 (by simp;omega);have oO8:=oO2.chg c58 (by simp;omega);have hn8:=c58.next;have c08:Chg [P] h h8:=(c02.mono (by simp)).trans c58;simp only [fN]
 cases hb:(jB T [125] (uC T [123] σ)).1 with
 | true=>
  simp only [Bool.not_true,cond_false,if_true];exact ⟨sl0,sl0,h8,rfl,x8,c08.mono (by simp),oO8,Sl.nil _ _ _,Sl.nil _ _ _⟩
 | false=>
  simp only [Bool.not_false,cond_true,Bool.false_eq_true,if_false];have r8:h8.cell (h.next,0)=some (.ptr (some (P,0))):=oQ8.cell 0;simp only [r8,fA,qB];have f:MF P X h8 O h.next h1.next off row:=⟨by omega,by omega,by omega,hX,rj,rk,rs,rt⟩;obtain ⟨h12,e12,mi⟩:=mAs (N:=N) hT hN f ⟨x8,Chg.refl _ _,oQ8,oV8,sl0,sl0,oO8,OwV.nil _ _ _ _,OwV.nil _ _ _ _⟩;rw [e12,aA];obtain ⟨v,w,oO12,w1_12,w2_12⟩:=mi.ex;have r12:h12.cell (h.next,0)=some (.ptr (some (P,0))):=mi.q.cell 0;simp only [r12,fA,qB];obtain ⟨h15,e15,c15,x15⟩:=gG (N:=N) hT mi.pc (w:=[125]) (by decide);rw [e15,aA];have w1_15:=w1_12.chg c15 (by intro C hC _;simp;omega);have w2_15:=w2_12.chg c15 (by intro C hC _;simp;omega);exact ⟨v,w,h15,rfl,x15,((c08.mono (N:=[P,O]) (by simp)).trans mi.chg).trans (c15.mono (by simp)),oO12.chg c15 (by simp;omega),w1_15.sl.weak (fun C hC _=>by have:=hC.1;omega),w2_15.sl.weak (fun C hC _=>by have:=hC.1;omega)⟩
end
end Qp
namespace Qp
abbrev VaV:=Int×Int×Int×zQ2×SL×Int×Int×zQ2×SL×Int×zQ2×SL×zQ2×SL×SL×Unit
def vac (x:VaV):List AV:=[.int .i64 x.1,.int .i64 x.2.1,.int .i64 x.2.2.1,.str x.2.2.2.1,.slice x.2.2.2.2.1.a x.2.2.2.2.1.len x.2.2.2.2.1.cap x.2.2.2.2.1.sz,.int .i64 x.2.2.2.2.2.1,.int .i64 x.2.2.2.2.2.2.1,.str x.2.2.2.2.2.2.2.1,.slice x.2.2.2.2.2.2.2.2.1.a x.2.2.2.2.2.2.2.2.1.len x.2.2.2.2.2.2.2.2.1.cap x.2.2.2.2.2.2.2.2.1.sz,.int .i64 x.2.2.2.2.2.2.2.2.2.1,.str x.2.2.2.2.2.2.2.2.2.2.1,.slice x.2.2.2.2.2.2.2.2.2.2.2.1.a x.2.2.2.2.2.2.2.2.2.2.2.1.len x.2.2.2.2.2.2.2.2.2.2.2.1.cap x.2.2.2.2.2.2.2.2.2.2.2.1.sz,.str x.2.2.2.2.2.2.2.2.2.2.2.2.1,.slice x.2.2.2.2.2.2.2.2.2.2.2.2.2.1.a x.2.2.2.2.2.2.2.2.2.2.2.2.2.1.len x.2.2.2.2.2.2.2.2.2.2.2.2.2.1.cap x.2.2.2.2.2.2.2.2.2.2.2.2.2.1.sz,.slice x.2.2.2.2.2.2.2.2.2.2.2.2.2.2.1.a x.2.2.2.2.2.2.2.2.2.2.2.2.2.2.1.len x.2.2.2.2.2.2.2.2.2.2.2.2.2.2.1.cap x.2.2.2.2.2.2.2.2.2.2.2.2.2.2.1.sz]
abbrev rE:OpV:=(0,0,[],sl0,())
def iF (k:Int) (a b:OpV) (op:Int) (pl:LfV) (nm:Bs) (ns ag:SL):VaV:=(k,a.1,a.2.1,a.2.2.1,a.2.2.2.1,b.1,b.2.1,b.2.2.1,b.2.2.2.1,op,pl.1,pl.2.1,nm,ns,ag,())
abbrev va0:VaV:=iF 0 rE rE 0 lf0 [] sl0 sl0
def vaD (k:Int) (a b:D) (op:Int) (pl:D) (nm:Bs) (ns ag:List D):D:=.t [.i k,a,b,.i op,pl,.s nm,.l ns,.l ag]
theorem iB4 {β:Type} (r:VaV) (K:VaV→Option β):iA (.val zB) (some (.agg (vac r))) K=K r:=by
 obtain ⟨x1,x2,x3,x4,x5,x6,x7,x8,x9,x10,x11,x12,x13,x14,x15,_⟩:=r;simp [vac]
theorem mY {H:Heap} {A:Nat} {r:VaV} (o:H.own A (vac r)) {β:Type} (K:VaV→Option β):iA (.val zB) (H.cells (A,0) 15) K=K r:=by
 have:H.cells (A,0) 15=some (.agg (vac r)):=o.cells (j:=0) (m:=15) (Nat.le_refl _)
 rw [this,iB4]
theorem qAz {H:Heap} {A:Nat} {r0:VaV} (o:H.own A (vac r0)) (r:VaV):H.store (A,0) [.int .i64 r.1,.int .i64 r.2.1,.int .i64 r.2.2.1,.str r.2.2.2.1,.slice r.2.2.2.2.1.a r.2.2.2.2.1.len r.2.2.2.2.1.cap r.2.2.2.2.1.sz,.int .i64 r.2.2.2.2.2.1,.int .i64 r.2.2.2.2.2.2.1,.str r.2.2.2.2.2.2.2.1,.slice r.2.2.2.2.2.2.2.2.1.a r.2.2.2.2.2.2.2.2.1.len r.2.2.2.2.2.2.2.2.1.cap r.2.2.2.2.2.2.2.2.1.sz,.int .i64 r.2.2.2.2.2.2.2.2.2.1,.str r.2.2.2.2.2.2.2.2.2.2.1,.slice r.2.2.2.2.2.2.2.2.2.2.2.1.a r.2.2.2.2.2.2.2.2.2.2.2.1.len r.2.2.2.2.2.2.2.2.2.2.2.1.cap r.2.2.2.2.2.2.2.2.2.2.2.1.sz,.str r.2.2.2.2.2.2.2.2.2.2.2.2.1,.slice r.2.2.2.2.2.2.2.2.2.2.2.2.2.1.a r.2.2.2.2.2.2.2.2.2.2.2.2.2.1.len r.2.2.2.2.2.2.2.2.2.2.2.2.2.1.cap r.2.2.2.2.2.2.2.2.2.2.2.2.2.1.sz,.slice r.2.2.2.2.2.2.2.2.2.2.2.2.2.2.1.a r.2.2.2.2.2.2.2.2.2.2.2.2.2.2.1.len r.2.2.2.2.2.2.2.2.2.2.2.2.2.2.1.cap r.2.2.2.2.2.2.2.2.2.2.2.2.2.2.1.sz]=some (H.put A (.row (vac r) .own)):=o.store rfl
theorem lBf {H:Heap} {A:Nat} {r0:VaV} (o:H.own A (vac r0)) (r:VaV) {β:Type} (K:VaV→Heap→Option β) :
  (rA (H.store (A,0) [.int .i64 r.1,.int .i64 r.2.1,.int .i64 r.2.2.1,.str r.2.2.2.1,.slice r.2.2.2.2.1.a r.2.2.2.2.1.len r.2.2.2.2.1.cap r.2.2.2.2.1.sz,.int .i64 r.2.2.2.2.2.1,.int .i64 r.2.2.2.2.2.2.1,.str r.2.2.2.2.2.2.2.1,.slice r.2.2.2.2.2.2.2.2.1.a r.2.2.2.2.2.2.2.2.1.len r.2.2.2.2.2.2.2.2.1.cap r.2.2.2.2.2.2.2.2.1.sz,.int .i64 r.2.2.2.2.2.2.2.2.2.1,.str r.2.2.2.2.2.2.2.2.2.2.1,.slice r.2.2.2.2.2.2.2.2.2.2.2.1.a r.2.2.2.2.2.2.2.2.2.2.2.1.len r.2.2.2.2.2.2.2.2.2.2.2.1.cap r.2.2.2.2.2.2.2.2.2.2.2.1.sz,.str r.2.2.2.2.2.2.2.2.2.2.2.2.1,.slice r.2.2.2.2.2.2.2.2.2.2.2.2.2.1.a r.2.2.2.2.2.2.2.2.2.2.2.2.2.1.len r.2.2.2.2.2.2.2.2.2.2.2.2.2.1.cap r.2.2.2.2.2.2.2.2.2.2.2.2.2.1.sz,.slice r.2.2.2.2.2.2.2.2.2.2.2.2.2.2.1.a r.2.2.2.2.2.2.2.2.2.2.2.2.2.2.1.len r.2.2.2.2.2.2.2.2.2.2.2.2.2.2.1.cap r.2.2.2.2.2.2.2.2.2.2.2.2.2.2.1.sz]) fun h7=>iA (.val zB) (h7.cells (A,0) 15) fun x8=>K x8 h7)=K r (H.put A (.row (vac r) .own)):=by
 rw [qAz o,dA,mY (yA o _)]
theorem tA2 {h:Heap} {V:Nat→Prop} {k op:Int} {a b pl:D} {nm:Bs} {ns ag:List D} {ra rb:OpV} {rp:LfV} {s1 s2:SL} (xa:Dt h V a (opc ra)) (xb:Dt h V b (opc rb)) (xp:Dt h V pl (lfc rp)) (x1:Sl h V s1 ns) (x2:Sl h V s2 ag):Dt h V (vaD k a b op pl nm ns ag) (vac (iF k ra rb op rp nm s1 s2)):=
 kAv (jC (a:=[_]) (wAj h V k) (jC (a:=opc ra) xa (jC (a:=opc rb) xb (jC (a:=[_]) (wAj h V op) (jC (a:=lfc rp) xp (jC (a:=[_]) (uJ h V nm) (jC (a:=[_]) (aM.2 x1) (jC (a:=[_]) (b:=[]) (aM.2 x2) (lY h V)))))))))
theorem jI (h:Heap) (V:Nat→Prop):Dt h V op0 (opc rE):=vAm (kL h V)
section
variable {k op:Int} {a b:OpV} {pl:LfV} {nm:Bs}
theorem nBj (v w:SL):(vac (iF k a b op pl nm v w))[0+13]? = some (SL.av v):=by simp [vac,iF,SL.av]
theorem cBj (v w:SL):(vac (iF k a b op pl nm v w))[0+14]? = some (SL.av w):=by simp [vac,iF,SL.av]
theorem oBj (v w v':SL):(vac (iF k a b op pl nm v w)).set (0+13) (SL.av v')=vac (iF k a b op pl nm v' w):=by simp [vac,iF,SL.av]
theorem dBj (v w w':SL):(vac (iF k a b op pl nm v w)).set (0+14) (SL.av w')=vac (iF k a b op pl nm v w'):=by simp [vac,iF,SL.av]
end
def qK (T:List Tok) (σ:St):D×St:=
 let a:=wG T σ
 if (jB T [123] a.2).1=true then
  let l:=fN T a.2
  (vaD 7 op0 op0 0 pl0 a.1 (l.1.map d1) (l.1.map d2),l.2)
 else
  let l:=lL T a.2
  (vaD 6 op0 op0 0 pl0 a.1 [] l.1,l.2)
def opS (T:List Tok):List Bs→Int→St→Option (Int×D)×St
 | [],_,σ=>(none,σ)
 | s::r,k,σ=>let b:=jB T s σ;if b.1=true then (some (k,(kE T b.2).1),(kE T b.2).2) else opS T r (k+1) b.2
def dN:List Bs:=[[43],[45],[60],[61,61]]
def opV (o:D):Option (Int×D)→D
 | none=>vaD 1 o op0 0 pl0 [] [] []
 | some (k,b)=>vaD 5 o b k pl0 [] [] []
def iG (T:List Tok) (σ:St):D×St:=
 let a:=jB T [38] σ
 if a.1=true then
  let m:=jB T [109,117,116] a.2
  let p:=uE T m.2
  (vaD (if m.1=true then 3 else 2) op0 op0 0 p.1 [] [] [],p.2)
 else
  let b:=jB T [33] a.2
  if b.1=true then (vaD 4 (kE T b.2).1 op0 0 pl0 [] [] [],(kE T b.2).2)
  else if (qD T b.2||mC T [123] b.2)=true then qK T b.2
  else
   let o:=kE T b.2
   let s:=opS T dN 1 o.2
   (opV o.1 s.1,s.2)
section
variable {N:Nat} {T:List Tok} {P:Nat} {X:List Nat} {st:Int} {h:Heap} {σ:St}
theorem jAg (hT:Toks T) (x:PC T P X h σ st) {w:Bs} (hw:isWord w=false):∃ h',f146 N (some (P,0)) 5 w h=some ((jB T w σ).1,h')∧Chg [] h h':=by
 obtain ⟨h',e,c⟩:=pAf (N:=N) x.pa 5 w;refine ⟨h',?_,c⟩;rw [e];obtain ⟨i,er⟩:=σ
 cases er with
 | some q=>rfl
 | none=>
  have:=lAj (T:=T) (i:=i) (uB9 hT x.lt) hw
  simp only [jB,Option.isNone_none,Bool.true_and,← this];cases isS T w i <;> rfl
theorem jB4 (hT:Toks T) (hN:100≤N) (x:PC T P X h σ st):∃ r h',f232 N (some (P,0)) h=some (r,h')∧PC T P X h' (qK T σ).2 st∧Chg [P] h h'∧Dt h' (fun C=>h.next≤C) (qK T σ).1 (vac r):=by
 unfold f232;have hP:=x.P_lt;have oR:=vA h (vac va0);have cR:=qA h (.row (vac va0) .own);have eR:h.push (.row [.int .i64 0,.int .i64 0,.int .i64 0,.str [],.slice none 0 0 0,.int .i64 0,.int .i64 0,.str [],.slice none 0 0 0,.int .i64 0,.str [],.slice none 0 0 0,.str [],.slice none 0 0 0,.slice none 0 0 0] .own)=h.push (.row (vac va0) .own):=rfl;have nR:(h.push (.row (vac va0) .own)).next=h.next+1:=rfl;have x1:=x.add cR (A:=h.next) (Nat.le_refl _) (Nat.lt_succ_self _);rw [eR];generalize h.push (.row (vac va0) .own)=h1 at *;dsimp only;obtain ⟨h3,e3,c3,x3⟩:=mAz (N:=N) hT x1;rw [e3,aA];have oR3:=oR.chg c3 (by simp;omega);have hn3:=c3.next;simp only [qK];generalize (wG T σ).1=nm at *;generalize (wG T σ).2=τ at *;have oO0:=vA h3 (vac va0);have cO0:=qA h3 (.row (vac va0) .own);have eO:h3.push (.row [.int .i64 0,.int .i64 0,.int .i64 0,.str [],.slice none 0 0 0,.int .i64 0,.int .i64 0,.str [],.slice none 0 0 0,.int .i64 0,.str [],.slice none 0 0 0,.str [],.slice none 0 0 0,.slice none 0 0 0] .own)=h3.push (.row (vac va0) .own):=rfl;have hstO:(h3.push (.row (vac va0) .own)).store (h3.next,0) [(.int .i64 6),(.int .i64 0),(.int .i64 0),(.str []),(.slice none 0 0 0),(.int .i64 0),(.int .i64 0),(.str []),(.slice none 0 0 0),(.int .i64 0),(.str []),(.slice none 0 0 0),(.str nm),(.slice none 0 0 0),(.slice none 0 0 0)]=some ((h3.push (.row (vac va0) .own)).put h3.next (.row (vac (iF 6 rE rE 0 lf0 nm sl0 sl0)) .own)):=oO0.store rfl;rw [eO,hstO,dA];have oO:=yA oO0 (vac (iF 6 rE rE 0 lf0 nm sl0 sl0));have cO:Chg [] h3 ((h3.push (.row (vac va0) .own)).put h3.next (.row (vac (iF 6 rE rE 0 lf0 nm sl0 sl0)) .own)):=cO0.put (.inr (Nat.le_refl _)) _;have nO:((h3.push (.row (vac va0) .own)).put h3.next (.row (vac (iF 6 rE rE 0 lf0 nm sl0 sl0)) .own)).next=h3.next+1:=rfl;have x5:=x3.add cO (A:=h3.next) (Nat.le_refl _) (Nat.lt_succ_self _);have oR5:=oR3.chg cO (by simp);generalize (h3.push (.row (vac va0) .own)).put h3.next (.row (vac (iF 6 rE rE 0 lf0 nm sl0 sl0)) .own)=h5 at *;obtain ⟨h7,e7,c7⟩:=jAg (N:=N) hT x5 (w:=[123]) (by decide);rw [e7,aA];have x7:=x5.chg c7;have oO7:=oO.chg c7 (by simp);have oR7:=oR5.chg c7 (by simp);have hn7:=c7.next;have c07:Chg [P] h h7:=(((cR.mono (by simp)).trans c3).trans (cO.mono (by simp))).trans (c7.mono (by simp))
 cases hb:(jB T [123] τ).1 with
 | true=>
  simp only [cond_true,if_true,Nat.add_zero];have hst:h7.store (h3.next,0) [.int .i64 7]=some (h7.put h3.next (.row (vac (iF 7 rE rE 0 lf0 nm sl0 sl0)) .own)):=fD oO7 rfl;rw [hst,dA];have cp:=oO7.put (vac (iF 7 rE rE 0 lf0 nm sl0 sl0));have oO8:=yA oO7 (vac (iF 7 rE rE 0 lf0 nm sl0 sl0));have oR8:=oR7.chg cp (by simp;omega);have x8:=x7.chg1 cp (by simp);have n8:(h7.put h3.next (.row (vac (iF 7 rE rE 0 lf0 nm sl0 sl0)) .own)).next=h7.next:=rfl;have c08:Chg [P] h (h7.put h3.next (.row (vac (iF 7 rE rE 0 lf0 nm sl0 sl0)) .own)):=c07.step cp (fun A hA hl=>by rw [List.mem_singleton] at hA;omega);generalize h7.put h3.next (.row (vac (iF 7 rE rE 0 lf0 nm sl0 sl0)) .own)=h8 at *;obtain ⟨v,w,h10,e10,x10,c10,oO10,sv,sw⟩:=gB4 (N:=N) (off:=0) (row:=fun v w=>vac (iF 7 rE rE 0 lf0 nm v w)) hT hN x8 (O:=h3.next) (by omega) (by simp) (fun v w=>nBj v w) (fun v w=>cBj v w) (fun v w v'=>oBj v w v') (fun v w w'=>dBj v w w') oO8;rw [e10,aA];have hn10:=c10.next;have oR10:=oR8.chg c10 (by simp;omega);rw [mY oO10];have cZ:=oR10.put (vac (iF 7 rE rE 0 lf0 nm v w));have c010:Chg [P] h h10:=c08.step c10 (fun A hA hl=>by
   simp only [List.mem_cons,List.not_mem_nil,or_false] at hA ⊢;omega)
  refine ⟨iF 7 rE rE 0 lf0 nm v w,_,lBf oR10 (iF 7 rE rE 0 lf0 nm v w) (fun x h=>some (x,h)),(x10.chg1 cZ (by simp)).sub (by simp +contextual),c010.step cZ (fun A hA hl=>by rw [List.mem_singleton] at hA;omega),tA2 (jI _ _) (jI _ _) (kL _ _) ?_ ?_⟩
  ·exact (sv.chg cZ (fun C hC=>by simp;omega)).weak (fun C hC _=>by omega)
  ·exact (sw.chg cZ (fun C hC=>by simp;omega)).weak (fun C hC _=>by omega)
 | false=>
  simp only [cond_false,Bool.false_eq_true,if_false];obtain ⟨v,h15,e15,x15,c15,oO15,sv⟩:=lAs (N:=N) (off:=0) (row:=fun v=>vac (iF 6 rE rE 0 lf0 nm sl0 v)) hT hN x7 (O:=h3.next) (by omega) (by simp) (fun v=>cBj sl0 v) (fun v v'=>dBj sl0 v v') oO7;rw [e15,aA];have hn15:=c15.next;have oR15:=oR7.chg c15 (by simp;omega);rw [mY oO15];have cZ:=oR15.put (vac (iF 6 rE rE 0 lf0 nm sl0 v));have c015:Chg [P] h h15:=c07.step c15 (fun A hA hl=>by
   simp only [List.mem_cons,List.not_mem_nil,or_false] at hA ⊢;omega)
  refine ⟨iF 6 rE rE 0 lf0 nm sl0 v,_,lBf oR15 (iF 6 rE rE 0 lf0 nm sl0 v) (fun x h=>some (x,h)),(x15.chg1 cZ (by simp)).sub (by simp +contextual),c015.step cZ (fun A hA hl=>by rw [List.mem_singleton] at hA;omega),tA2 (jI _ _) (jI _ _) (kL _ _) (Sl.nil _ _ _) ?_⟩;exact (sv.chg cZ (fun C hC=>by simp;omega)).weak (fun C hC _=>by omega)
theorem eAx (hT:Toks T) (hN:100≤N) {h0:Heap} {O S:Nat} {R:zJ2} {ra:OpV} (hO:P<O∧O<h0.next) (hX:O∈X) (hS:S≠P∧S≠O∧S<h0.next):∀ (l:List Bs) (p M:Nat) (h:Heap) (σ:St),l.length<M→p+l.length=4→dN.drop p=l→PC T P X h σ st→Chg [P,O] h0 h→h.own O (vac (iF 1 ra rE 0 lf0 [] sl0 sl0))→h.own S [.str [43],.str [45],.str [60],.str [61,61]]→
  ∃ h' k rb op,pA8 N M (some (P,0)) R (some (O,0)) ⟨some (S,0),4,4,1⟩ (Int.ofNat 4) (p:Int) h=some (.exit 1,(R,some (O,0),()),h')∧PC T P X h' (opS T l ((p:Int)+1) σ).2 st∧Chg [P,O] h0 h'∧h'.own O (vac (iF k ra rb op lf0 [] sl0 sl0))∧
   (((opS T l ((p:Int)+1) σ).1=none∧k=1∧rb=rE∧op=0)∨(∃ b,(opS T l ((p:Int)+1) σ).1=some (op,b)∧k=5∧Dt h' (fun C=>h0.next≤C) b (opc rb))):=by
 intro l
 induction l with
 | nil=>
  intro p M h σ hM hp hd x c oO oS;obtain ⟨M,rfl⟩:∃ m,M=m+1:=⟨M-1,by omega⟩;rw [kY];unfold pU;have hp4:p=4:=by simpa using hp
  subst hp4;simp only [show wB ((4:Nat):Int) (Int.ofNat 4)=false from rfl,cond_false,opS];exact ⟨h,1,rE,0,rfl,x,c,oO,.inl (by simp)⟩
 | cons s l ih=>
  intro p M h σ hM hp hd x c oO oS;simp only [List.length_cons] at hM hp;obtain ⟨M,rfl⟩:∃ m,M=m+1:=⟨M-1,by omega⟩;rw [kY];unfold pU;have hn0:=c.next;have hp4:p<4:=by omega
  have hlt:wB (p:Int) (Int.ofNat 4)=true:=by rw [ltI];exact decide_eq_true (by show (p:Int)<((4:Nat):Int);omega)
  have hsp:dN[p]? = some s:=by rw [← List.head?_drop,hd];rfl
  have hd':dN.drop (p+1)=l:=by rw [← List.drop_drop,hd];rfl
  have hcell:h.cell (SL.at ⟨some (S,0),4,4,1⟩ p 1)=some (.str s):=by
   show h.cell (S,0+p * 1)=_;rw [Nat.zero_add,Nat.mul_one,oS.cell p,show ([.str [43],.str [45],.str [60],.str [61,61]]:List AV)=dN.map AV.str from rfl,List.getElem?_map,hsp];rfl
  have hws:isWord s=false:=by
   have:s∈dN:=List.mem_of_getElem? hsp
   simp only [dN,List.mem_cons,List.not_mem_nil,or_false] at this;rcases this with rfl | rfl | rfl | rfl <;> decide
  rw [hlt];simp only [cond_true];rw [dU (s:=⟨some (S,0),4,4,1⟩) rfl hp4,hcell];simp only [fA,cD];obtain ⟨h40,e40,c40,x40⟩:=qI (N:=N) hT x (w:=s) hws;rw [e40,aA];have o40:=oO.chg c40 (by simp;omega);have s40:=oS.chg c40 (by simp;omega);have c040:=c.trans (c40.mono (N:=[P,O]) (by simp));simp only [opS]
  cases hb:(jB T s σ).1 with
  | true=>
   simp only [cond_true,if_true];obtain ⟨r,h43,e43,x43,c43,d43⟩:=pS (N:=N) hT hN x40;rw [e43,aA];have o43:=o40.chg c43 (by simp;omega);have hn43:=c040.next;simp only [dA,Nat.zero_add,Nat.add_zero];have hw1:dB .i64 (1+(p:Int))=(p:Int)+1:=by rw [rF (by omega) (by omega)];omega
   rw [hw1];have st1:h43.store (O,0) [.int .i64 5]=some (h43.put O (.row (vac (iF 5 ra rE 0 lf0 [] sl0 sl0)) .own)):=fD o43 rfl;rw [st1,dA];have p1:=yA o43 (vac (iF 5 ra rE 0 lf0 [] sl0 sl0));have st2:(h43.put O (.row (vac (iF 5 ra rE 0 lf0 [] sl0 sl0)) .own)).store (O,9) [.int .i64 ((p:Int)+1)]=some ((h43.put O (.row (vac (iF 5 ra rE 0 lf0 [] sl0 sl0)) .own)).put O (.row (vac (iF 5 ra rE ((p:Int)+1) lf0 [] sl0 sl0)) .own)):=fD p1 rfl;rw [st2,dA];have p2:=yA p1 (vac (iF 5 ra rE ((p:Int)+1) lf0 [] sl0 sl0));have st3:((h43.put O (.row (vac (iF 5 ra rE 0 lf0 [] sl0 sl0)) .own)).put O (.row (vac (iF 5 ra rE ((p:Int)+1) lf0 [] sl0 sl0)) .own)).store (O,5) [.int .i64 r.1,.int .i64 r.2.1,.str r.2.2.1,.slice r.2.2.2.1.a r.2.2.2.1.len r.2.2.2.1.cap r.2.2.2.1.sz]=some (((h43.put O (.row (vac (iF 5 ra rE 0 lf0 [] sl0 sl0)) .own)).put O (.row (vac (iF 5 ra rE ((p:Int)+1) lf0 [] sl0 sl0)) .own)).put O (.row (vac (iF 5 ra r ((p:Int)+1) lf0 [] sl0 sl0)) .own)):=fD p2 rfl;rw [st3,dA];have p3:=yA p2 (vac (iF 5 ra r ((p:Int)+1) lf0 [] sl0 sl0));have cp:Chg [O] h43 (((h43.put O (.row (vac (iF 5 ra rE 0 lf0 [] sl0 sl0)) .own)).put O (.row (vac (iF 5 ra rE ((p:Int)+1) lf0 [] sl0 sl0)) .own)).put O (.row (vac (iF 5 ra r ((p:Int)+1) lf0 [] sl0 sl0)) .own)):=((o43.put _).trans (p1.put _)).trans (p2.put _);refine ⟨_,5,r,(p:Int)+1,rfl,x43.chg1 cp hX,(c040.trans (c43.mono (by simp))).trans (cp.mono (by simp)),p3,.inr ⟨_,rfl,rfl,(d43.chg cp (fun C hC=>by simp;omega)).weak fun C hC _=>by omega⟩⟩
  | false=>
   simp only [cond_false,Bool.false_eq_true,if_false];rw [dC (by omega)]
   have:=ih (p+1) M h40 _ (by omega) (by omega) hd' x40 c040 o40 s40
   rw [show (((p+1:Nat):Int))=(p:Int)+1 from by omega] at this;exact this
theorem kAg (hT:Toks T) (hN:100≤N) (x:PC T P X h σ st):∃ r h',f219 N (some (P,0)) h=some (r,h')∧PC T P X h' (iG T σ).2 st∧Chg [P] h h'∧Dt h' (fun C=>h.next≤C) (iG T σ).1 (vac r):=by
 unfold f219;have hP:=x.P_lt;have oR:=vA h (vac va0);have cR:=qA h (.row (vac va0) .own);have eR:h.push (.row [.int .i64 0,.int .i64 0,.int .i64 0,.str [],.slice none 0 0 0,.int .i64 0,.int .i64 0,.str [],.slice none 0 0 0,.int .i64 0,.str [],.slice none 0 0 0,.str [],.slice none 0 0 0,.slice none 0 0 0] .own)=h.push (.row (vac va0) .own):=rfl;have nR:(h.push (.row (vac va0) .own)).next=h.next+1:=rfl;have x1:=x.add cR (A:=h.next) (Nat.le_refl _) (Nat.lt_succ_self _);rw [eR];generalize h.push (.row (vac va0) .own)=h1 at *;dsimp only;obtain ⟨h3,e3,c3,x3⟩:=qI (N:=N) hT x1 (w:=[38]) (by decide);rw [e3,aA];have oR3:=oR.chg c3 (by simp;omega);have c03:Chg [P] h h3:=(cR.mono (by simp)).trans c3;have hn3:=c3.next;have fin:∀ {h':Heap} {σ':St} (c:Chg [P] h h') (y:PC T P (h.next::X) h' σ' st) (o:h'.own h.next (vac va0)) (hn:h.next+1≤h'.next) (r:VaV) {d:D} (_:Dt h' (fun C=>h.next+1≤C) d (vac r)),PC T P X (h'.put h.next (.row (vac r) .own)) σ' st∧Chg [P] h (h'.put h.next (.row (vac r) .own))∧Dt (h'.put h.next (.row (vac r) .own)) (fun C=>h.next≤C) d (vac r)∧(h'.put h.next (.row (vac r) .own)).own h.next (vac r):=fun c y o hn r d hd=>
  ⟨(y.chg1 (o.put (vac r)) (by simp)).sub (by simp +contextual),c.put (.inr (Nat.le_refl _)) _,(hd.chg (o.put (vac r)) (fun C hC=>by simp;omega)).weak (fun C hC _=>by omega),yA o _⟩
 simp only [iG]
 cases hb:(jB T [38] σ).1 with
 | true=>
  simp only [cond_true,if_true];obtain ⟨h5,e5,c5,x5⟩:=iI (N:=N) hT x3 (w:=[109,117,116]) (by decide);rw [e5,aA];have oR5:=oR3.chg c5 (by simp;omega);have c05:=c03.trans c5;have hn5:=c5.next
  cases hm:(jB T [109,117,116] (jB T [38] σ).2).1 with
  | true=>
   simp only [cond_true,if_true,aA];obtain ⟨rp,h9,e9,x9,c9,d9⟩:=rA2 (N:=N) hT hN x5;rw [e9,aA];have oR9:=oR5.chg c9 (by simp;omega);have hn9:=c9.next;obtain ⟨f1,f2,f3,f4⟩:=fin (c05.trans c9) x9 oR9 (by omega) (iF 3 rE rE 0 rp [] sl0 sl0) (tA2 (jI _ _) (jI _ _) (d9.weak fun C hC _=>by omega) (Sl.nil _ _ _) (Sl.nil _ _ _));have hst:h9.store (h.next,0) [(.int .i64 3),(.int .i64 0),(.int .i64 0),(.str []),(.slice none 0 0 0),(.int .i64 0),(.int .i64 0),(.str []),(.slice none 0 0 0),(.int .i64 0),(.str rp.1),(.slice rp.2.1.a rp.2.1.len rp.2.1.cap rp.2.1.sz),(.str []),(.slice none 0 0 0),(.slice none 0 0 0)]=some (h9.put h.next (.row (vac (iF 3 rE rE 0 rp [] sl0 sl0)) .own)):=oR9.store rfl;simp only [dA,hst,pC,kC];exact ⟨iF 3 rE rE 0 rp [] sl0 sl0,_,mY f4 (fun x=>some (x,_)),f1,f2,f3⟩
  | false=>
   simp only [cond_false,Bool.false_eq_true,if_false,aA];obtain ⟨rp,h9,e9,x9,c9,d9⟩:=rA2 (N:=N) hT hN x5;rw [e9,aA];have oR9:=oR5.chg c9 (by simp;omega);have hn9:=c9.next;obtain ⟨f1,f2,f3,f4⟩:=fin (c05.trans c9) x9 oR9 (by omega) (iF 2 rE rE 0 rp [] sl0 sl0) (tA2 (jI _ _) (jI _ _) (d9.weak fun C hC _=>by omega) (Sl.nil _ _ _) (Sl.nil _ _ _));have hst:h9.store (h.next,0) [(.int .i64 2),(.int .i64 0),(.int .i64 0),(.str []),(.slice none 0 0 0),(.int .i64 0),(.int .i64 0),(.str []),(.slice none 0 0 0),(.int .i64 0),(.str rp.1),(.slice rp.2.1.a rp.2.1.len rp.2.1.cap rp.2.1.sz),(.str []),(.slice none 0 0 0),(.slice none 0 0 0)]=some (h9.put h.next (.row (vac (iF 2 rE rE 0 rp [] sl0 sl0)) .own)):=oR9.store rfl;simp only [dA,hst,pC,kC];exact ⟨iF 2 rE rE 0 rp [] sl0 sl0,_,mY f4 (fun x=>some (x,_)),f1,f2,f3⟩
 | false=>
  simp only [cond_false,Bool.false_eq_true,if_false];obtain ⟨h13,e13,c13,x13⟩:=qI (N:=N) hT x3 (w:=[33]) (by decide);rw [e13,aA];have oR13:=oR3.chg c13 (by simp;omega);have c013:=c03.trans c13;have hn13:=c13.next
  cases hb2:(jB T [33] (jB T [38] σ).2).1 with
  | true=>
   simp only [cond_true,if_true];obtain ⟨ra,h15,e15,x15,c15,d15⟩:=pS (N:=N) hT hN x13;rw [e15,aA];have oR15:=oR13.chg c15 (by simp;omega);have hn15:=c15.next;obtain ⟨f1,f2,f3,f4⟩:=fin (c013.trans c15) x15 oR15 (by omega) (iF 4 ra rE 0 lf0 [] sl0 sl0) (tA2 (d15.weak fun C hC _=>by omega) (jI _ _) (kL _ _) (Sl.nil _ _ _) (Sl.nil _ _ _));have hst:h15.store (h.next,0) [(.int .i64 4),(.int .i64 ra.1),(.int .i64 ra.2.1),(.str ra.2.2.1),(.slice ra.2.2.2.1.a ra.2.2.2.1.len ra.2.2.2.1.cap ra.2.2.2.1.sz),(.int .i64 0),(.int .i64 0),(.str []),(.slice none 0 0 0),(.int .i64 0),(.str []),(.slice none 0 0 0),(.str []),(.slice none 0 0 0),(.slice none 0 0 0)]=some (h15.put h.next (.row (vac (iF 4 ra rE 0 lf0 [] sl0 sl0)) .own)):=oR15.store rfl;simp only [dA,hst,pC,kC];exact ⟨iF 4 ra rE 0 lf0 [] sl0 sl0,_,mY f4 (fun x=>some (x,_)),f1,f2,f3⟩
  | false=>
   simp only [cond_false,Bool.false_eq_true,if_false];generalize (jB T [33] (jB T [38] σ).2).2=τ at *;have hcall:∃ h22,(lA (f222 N (some (P,0)) h13) fun (x17:Bool) h18=>
     (bif x17 then
      some ((some (P,0),(some (h.next,0)),true,()),h18)
     else
      (lA (f231 N (some (P,0)) [123] h18) fun (x19:Bool) h20=>
      some ((some (P,0),(some (h.next,0)),x19,()),h20))))=some ((some (P,0),some (h.next,0),(qD T τ||mC T [123] τ),()),h22)∧Chg [] h13 h22:=by
    obtain ⟨h18,e18,c18⟩:=iAs (N:=N) hT x13;rw [e18,aA]
    cases hc:qD T τ with
    | true=>simp only [cond_true,Bool.true_or];exact ⟨_,rfl,c18⟩
    | false=>
     simp only [cond_false,Bool.false_or];obtain ⟨h20,e20,c20⟩:=iAg (N:=N) hT (x13.chg c18) [123];rw [e20,aA];exact ⟨_,rfl,c18.trans c20⟩
   obtain ⟨h22,e22,c22⟩:=hcall;rw [e22,aA];have x22:=x13.chg c22;have oR22:=oR13.chg c22 (by simp);have c022:=c013.trans (c22.mono (N:=[P]) (by simp));have hn22:=c22.next;dsimp only
   cases hc:(qD T τ||mC T [123] τ) with
   | true=>
    simp only [cond_true,if_true];obtain ⟨rv,h24,e24,x24,c24,d24⟩:=jB4 (N:=N) hT hN x22;rw [e24,aA];have oR24:=oR22.chg c24 (by simp;omega);have hn24:=c24.next;obtain ⟨f1,f2,f3,f4⟩:=fin (c022.trans c24) x24 oR24 (by omega) rv (d24.weak fun C hC _=>by omega);simp only [dA,qAz oR24,pC,kC];exact ⟨rv,_,mY f4 (fun x=>some (x,_)),f1,f2,f3⟩
   | false=>
    simp only [cond_false,Bool.false_eq_true,if_false,dA,kC];obtain ⟨ra,h32,e32,x32,c32,d32⟩:=pS (N:=N) hT hN x22;rw [e32,aA];have oR32:=oR22.chg c32 (by simp;omega);have d32:=d32.weak (W:=fun C=>h22.next≤C∧C<h32.next) (fun C hC hl=>⟨hC,hl⟩);have c032:=c022.trans c32;have hn32:=c32.next;have oO0:=vA h32 (vac va0);have cO0:=qA h32 (.row (vac va0) .own);have eO:h32.push (.row [.int .i64 0,.int .i64 0,.int .i64 0,.str [],.slice none 0 0 0,.int .i64 0,.int .i64 0,.str [],.slice none 0 0 0,.int .i64 0,.str [],.slice none 0 0 0,.str [],.slice none 0 0 0,.slice none 0 0 0] .own)=h32.push (.row (vac va0) .own):=rfl;have hstO:(h32.push (.row (vac va0) .own)).store (h32.next,0) [(.int .i64 1),(.int .i64 ra.1),(.int .i64 ra.2.1),(.str ra.2.2.1),(.slice ra.2.2.2.1.a ra.2.2.2.1.len ra.2.2.2.1.cap ra.2.2.2.1.sz),(.int .i64 0),(.int .i64 0),(.str []),(.slice none 0 0 0),(.int .i64 0),(.str []),(.slice none 0 0 0),(.str []),(.slice none 0 0 0),(.slice none 0 0 0)]=some ((h32.push (.row (vac va0) .own)).put h32.next (.row (vac (iF 1 ra rE 0 lf0 [] sl0 sl0)) .own)):=oO0.store rfl;rw [eO,hstO,dA];have oO:=yA oO0 (vac (iF 1 ra rE 0 lf0 [] sl0 sl0));have cO:Chg [] h32 ((h32.push (.row (vac va0) .own)).put h32.next (.row (vac (iF 1 ra rE 0 lf0 [] sl0 sl0)) .own)):=cO0.put (.inr (Nat.le_refl _)) _;have nO:((h32.push (.row (vac va0) .own)).put h32.next (.row (vac (iF 1 ra rE 0 lf0 [] sl0 sl0)) .own)).next=h32.next+1:=rfl;have x34:=x32.add cO (A:=h32.next) (Nat.le_refl _) (Nat.lt_succ_self _);have oR34:=oR32.chg cO (by simp);have d34:=d32.chg cO (by simp);have c034:=c032.trans (cO.mono (N:=[P]) (by simp));generalize (h32.push (.row (vac va0) .own)).put h32.next (.row (vac (iF 1 ra rE 0 lf0 [] sl0 sl0)) .own)=h34 at *;have oS:=vA h34 [.str [43],.str [45],.str [60],.str [61,61]];have cS:=qA h34 (.row [.str [43],.str [45],.str [60],.str [61,61]] .own);have nS:(h34.push (.row [.str [43],.str [45],.str [60],.str [61,61]] .own)).next=h34.next+1:=rfl;have x35:=x34.chg cS;have oR35:=oR34.chg cS (by simp);have oO35:=oO.chg cS (by simp);have d35:=d34.chg cS (by simp);have c035:=c034.trans (cS.mono (N:=[P]) (by simp));generalize h34.push (.row [.str [43],.str [45],.str [60],.str [61,61]] .own)=h35 at *;obtain ⟨h53,k,rb,op,e53,x53,c53,o53,hres⟩:=eAx (N:=N) hT hN (h0:=h35) (O:=h32.next) (S:=h34.next) (R:=some (h.next,0)) (ra:=ra) (by omega) (by simp) (by omega) dN 0 N h35 _ (by simp [dN];omega) rfl rfl x35 (Chg.refl _ _) oO35 oS;rw [show ((0:Nat):Int)=0 from rfl] at e53 x53 hres;rw [Int.zero_add] at x53 hres;rw [e53];simp only [uB,dA];have hn53:=c53.next;rw [mY o53];have oR53:=oR35.chg c53 (by simp;omega);have c053:Chg [P] h h53:=c035.step c53 (fun A hA hl=>by
     simp only [List.mem_cons,List.not_mem_nil,or_false] at hA ⊢;omega)
    have cZ:=oR53.put (vac (iF k ra rb op lf0 [] sl0 sl0));have x53':=x53.sub (X':=h.next::X) (by simp +contextual);have d53:=(d35.chg c53 (by intro C hC;simp;omega)).weak (W:=fun C=>h.next+1≤C) (fun C hC _=>by omega);rcases hres with ⟨e1,rfl,rfl,rfl⟩ | ⟨b,e1,rfl,db⟩
    ·obtain ⟨f1,f2,f3,f4⟩:=fin c053 x53' oR53 (by omega) (iF 1 ra rE 0 lf0 [] sl0 sl0) (tA2 d53 (jI _ _) (kL _ _) (Sl.nil _ _ _) (Sl.nil _ _ _))
     rw [e1];exact ⟨iF 1 ra rE 0 lf0 [] sl0 sl0,_,lBf oR53 (iF 1 ra rE 0 lf0 [] sl0 sl0) (fun x h=>some (x,h)),f1,f2,f3⟩
    ·obtain ⟨f1,f2,f3,f4⟩:=fin c053 x53' oR53 (by omega) (iF 5 ra rb op lf0 [] sl0 sl0) (tA2 d53 (db.weak fun C hC _=>by omega) (kL _ _) (Sl.nil _ _ _) (Sl.nil _ _ _))
     rw [e1];exact ⟨iF 5 ra rb op lf0 [] sl0 sl0,_,lBf oR53 (iF 5 ra rb op lf0 [] sl0 sl0) (fun x h=>some (x,h)),f1,f2,f3⟩
end
end Qp
namespace Qp
structure SmR where
 k:Int
 at_:Int
 m:Bool
 nm:Bs
 ty:TyV
 has:Bool
 pl:LfV
 va:VaV
 co:OpV
 th:SL
 el:SL
structure SmT where
 ty:D
 pl:D
 va:D
 co:D
 th:List D
 el:List D
abbrev SmV:=Int×Int×Bool×zQ2×Int×zQ2×SL×SL×Bool×zQ2×SL×Int×Int×Int×zQ2×SL×Int×Int×zQ2×SL×Int×zQ2×SL×zQ2×SL×SL×Int×Int×zQ2×SL×SL×SL×Unit
def smx (x:SmV):List AV:=[.int .i64 x.1,.int .i64 x.2.1,.bool x.2.2.1,.str x.2.2.2.1,.int .i64 x.2.2.2.2.1,.str x.2.2.2.2.2.1,.slice x.2.2.2.2.2.2.1.a x.2.2.2.2.2.2.1.len x.2.2.2.2.2.2.1.cap x.2.2.2.2.2.2.1.sz,.slice x.2.2.2.2.2.2.2.1.a x.2.2.2.2.2.2.2.1.len x.2.2.2.2.2.2.2.1.cap x.2.2.2.2.2.2.2.1.sz,.bool x.2.2.2.2.2.2.2.2.1,.str x.2.2.2.2.2.2.2.2.2.1,.slice x.2.2.2.2.2.2.2.2.2.2.1.a x.2.2.2.2.2.2.2.2.2.2.1.len x.2.2.2.2.2.2.2.2.2.2.1.cap x.2.2.2.2.2.2.2.2.2.2.1.sz,.int .i64 x.2.2.2.2.2.2.2.2.2.2.2.1,.int .i64 x.2.2.2.2.2.2.2.2.2.2.2.2.1,.int .i64 x.2.2.2.2.2.2.2.2.2.2.2.2.2.1,.str x.2.2.2.2.2.2.2.2.2.2.2.2.2.2.1,.slice x.2.2.2.2.2.2.2.2.2.2.2.2.2.2.2.1.a x.2.2.2.2.2.2.2.2.2.2.2.2.2.2.2.1.len x.2.2.2.2.2.2.2.2.2.2.2.2.2.2.2.1.cap x.2.2.2.2.2.2.2.2.2.2.2.2.2.2.2.1.sz,.int .i64 x.2.2.2.2.2.2.2.2.2.2.2.2.2.2.2.2.1,.int .i64 x.2.2.2.2.2.2.2.2.2.2.2.2.2.2.2.2.2.1,.str x.2.2.2.2.2.2.2.2.2.2.2.2.2.2.2.2.2.2.1,.slice x.2.2.2.2.2.2.2.2.2.2.2.2.2.2.2.2.2.2.2.1.a x.2.2.2.2.2.2.2.2.2.2.2.2.2.2.2.2.2.2.2.1.len x.2.2.2.2.2.2.2.2.2.2.2.2.2.2.2.2.2.2.2.1.cap x.2.2.2.2.2.2.2.2.2.2.2.2.2.2.2.2.2.2.2.1.sz,.int .i64 x.2.2.2.2.2.2.2.2.2.2.2.2.2.2.2.2.2.2.2.2.1,.str x.2.2.2.2.2.2.2.2.2.2.2.2.2.2.2.2.2.2.2.2.2.1,.slice x.2.2.2.2.2.2.2.2.2.2.2.2.2.2.2.2.2.2.2.2.2.2.1.a x.2.2.2.2.2.2.2.2.2.2.2.2.2.2.2.2.2.2.2.2.2.2.1.len x.2.2.2.2.2.2.2.2.2.2.2.2.2.2.2.2.2.2.2.2.2.2.1.cap x.2.2.2.2.2.2.2.2.2.2.2.2.2.2.2.2.2.2.2.2.2.2.1.sz,.str x.2.2.2.2.2.2.2.2.2.2.2.2.2.2.2.2.2.2.2.2.2.2.2.1,.slice x.2.2.2.2.2.2.2.2.2.2.2.2.2.2.2.2.2.2.2.2.2.2.2.2.1.a x.2.2.2.2.2.2.2.2.2.2.2.2.2.2.2.2.2.2.2.2.2.2.2.2.1.len x.2.2.2.2.2.2.2.2.2.2.2.2.2.2.2.2.2.2.2.2.2.2.2.2.1.cap x.2.2.2.2.2.2.2.2.2.2.2.2.2.2.2.2.2.2.2.2.2.2.2.2.1.sz,.slice x.2.2.2.2.2.2.2.2.2.2.2.2.2.2.2.2.2.2.2.2.2.2.2.2.2.1.a x.2.2.2.2.2.2.2.2.2.2.2.2.2.2.2.2.2.2.2.2.2.2.2.2.2.1.len x.2.2.2.2.2.2.2.2.2.2.2.2.2.2.2.2.2.2.2.2.2.2.2.2.2.1.cap x.2.2.2.2.2.2.2.2.2.2.2.2.2.2.2.2.2.2.2.2.2.2.2.2.2.1.sz,.int .i64 x.2.2.2.2.2.2.2.2.2.2.2.2.2.2.2.2.2.2.2.2.2.2.2.2.2.2.1,.int .i64 x.2.2.2.2.2.2.2.2.2.2.2.2.2.2.2.2.2.2.2.2.2.2.2.2.2.2.2.1,.str x.2.2.2.2.2.2.2.2.2.2.2.2.2.2.2.2.2.2.2.2.2.2.2.2.2.2.2.2.1,.slice x.2.2.2.2.2.2.2.2.2.2.2.2.2.2.2.2.2.2.2.2.2.2.2.2.2.2.2.2.2.1.a x.2.2.2.2.2.2.2.2.2.2.2.2.2.2.2.2.2.2.2.2.2.2.2.2.2.2.2.2.2.1.len x.2.2.2.2.2.2.2.2.2.2.2.2.2.2.2.2.2.2.2.2.2.2.2.2.2.2.2.2.2.1.cap x.2.2.2.2.2.2.2.2.2.2.2.2.2.2.2.2.2.2.2.2.2.2.2.2.2.2.2.2.2.1.sz,.slice x.2.2.2.2.2.2.2.2.2.2.2.2.2.2.2.2.2.2.2.2.2.2.2.2.2.2.2.2.2.2.1.a x.2.2.2.2.2.2.2.2.2.2.2.2.2.2.2.2.2.2.2.2.2.2.2.2.2.2.2.2.2.2.1.len x.2.2.2.2.2.2.2.2.2.2.2.2.2.2.2.2.2.2.2.2.2.2.2.2.2.2.2.2.2.2.1.cap x.2.2.2.2.2.2.2.2.2.2.2.2.2.2.2.2.2.2.2.2.2.2.2.2.2.2.2.2.2.2.1.sz,.slice x.2.2.2.2.2.2.2.2.2.2.2.2.2.2.2.2.2.2.2.2.2.2.2.2.2.2.2.2.2.2.2.1.a x.2.2.2.2.2.2.2.2.2.2.2.2.2.2.2.2.2.2.2.2.2.2.2.2.2.2.2.2.2.2.2.1.len x.2.2.2.2.2.2.2.2.2.2.2.2.2.2.2.2.2.2.2.2.2.2.2.2.2.2.2.2.2.2.2.1.cap x.2.2.2.2.2.2.2.2.2.2.2.2.2.2.2.2.2.2.2.2.2.2.2.2.2.2.2.2.2.2.2.1.sz]
def smv (r:SmR):SmV:=(r.k,r.at_,r.m,r.nm,r.ty.1,r.ty.2.1,r.ty.2.2.1,r.ty.2.2.2.1,r.has,r.pl.1,r.pl.2.1,r.va.1,r.va.2.1,r.va.2.2.1,r.va.2.2.2.1,r.va.2.2.2.2.1,r.va.2.2.2.2.2.1,r.va.2.2.2.2.2.2.1,r.va.2.2.2.2.2.2.2.1,r.va.2.2.2.2.2.2.2.2.1,r.va.2.2.2.2.2.2.2.2.2.1,r.va.2.2.2.2.2.2.2.2.2.2.1,r.va.2.2.2.2.2.2.2.2.2.2.2.1,r.va.2.2.2.2.2.2.2.2.2.2.2.2.1,r.va.2.2.2.2.2.2.2.2.2.2.2.2.2.1,r.va.2.2.2.2.2.2.2.2.2.2.2.2.2.2.1,r.co.1,r.co.2.1,r.co.2.2.1,r.co.2.2.2.1,r.th,r.el,())
def smc (r:SmR):List AV:=smx (smv r)
def smD (r:SmR) (d:SmT):D:=.t [.i r.k,.i r.at_,.b r.m,.s r.nm,d.ty,.b r.has,d.pl,d.va,d.co,.l d.th,.l d.el]
abbrev dBh:TyV:=(0,[],sl0,sl0,())
def wF (at_:Int):SmR:=⟨0,at_,false,[],dBh,false,lf0,va0,rE,sl0,sl0⟩
def va00:D:=vaD 0 op0 op0 0 pl0 [] [] []
def ty0D:D:=tyD 0 [] [] []
def bK:SmT:=⟨ty0D,pl0,va00,op0,[],[]⟩
theorem kBb (h:Heap) (V:Nat→Prop):Dt h V va00 (vac va0):=tA2 (jI _ _) (jI _ _) (kL _ _) (Sl.nil _ _ _) (Sl.nil _ _ _)
structure SI (T:List Tok) (P:Nat) (X:List Nat) (hb:Heap) (R O:Nat) (r:SmR) (d:SmT) (h:Heap) (σ:St) (st:Int):Prop where
 pc:PC T P (O::R::X) h σ st
 chg:Chg [P] hb h
 oR:h.own R (smc (wF 0))
 oO:h.own O (smc r)
 le:hb.next≤R∧R<O∧P<hb.next
 dty:Dt h (fun C=>O<C) d.ty (tyc r.ty)
 dpl:Dt h (fun C=>O<C) d.pl (lfc r.pl)
 dva:Dt h (fun C=>O<C) d.va (vac r.va)
 dco:Dt h (fun C=>O<C) d.co (opc r.co)
 dth:Sl h (fun C=>O<C) r.th d.th
 del:Sl h (fun C=>O<C) r.el d.el
section
variable {T:List Tok} {P:Nat} {X:List Nat} {st st':Int} {hb h h':Heap} {R O:Nat} {r r':SmR} {d d':SmT} {σ σ':St}
theorem SI.dt (x:SI T P X hb R O r d h σ st):Dt h (fun C=>O<C) (smD r d) (smc r):=
 kAv (jC (a:=[_]) (wAj h _ r.k) (jC (a:=[_]) (wAj h _ r.at_) (jC (a:=[_]) (oAz h _ r.m) (jC (a:=[_]) (uJ h _ r.nm) (jC (a:=tyc r.ty) x.dty (jC (a:=[_]) (oAz h _ r.has) (jC (a:=lfc r.pl) x.dpl (jC (a:=vac r.va) x.dva (jC (a:=opc r.co) x.dco (jC (a:=[_]) (aM.2 x.dth) (jC (a:=[_]) (b:=[]) (aM.2 x.del) (lY h _))))))))))))
theorem SI.step2 (x:SI T P X hb R O r d h σ st) (c:Chg [P,O] h h') (y:PC T P (O::R::X) h' σ' st') (o:h'.own O (smc r')) (e:r'.ty=r.ty∧r'.pl=r.pl∧r'.va=r.va∧r'.co=r.co∧r'.th=r.th∧r'.el=r.el):SI T P X hb R O r' d h' σ' st':=by
 obtain ⟨x1,x2,x3,x4,x5,x6,x7,x8,x9,x10,x11⟩:=x;obtain ⟨e1,e2,e3,e4,e5,e6⟩:=e;have hM:∀ A,O<A→A ∉ [P,O]:=fun C hC=>by simp;omega
 exact ⟨y,x2.step c (fun A hA hl=>by simp only [List.mem_cons,List.not_mem_nil,or_false] at hA ⊢;omega),x3.chg c (by simp;omega),o,x5,by rw [e1];exact x6.chg c hM,by rw [e2];exact x7.chg c hM,by rw [e3];exact x8.chg c hM,by rw [e4];exact x9.chg c hM,by rw [e5];exact x10.chg c hM,by rw [e6];exact x11.chg c hM⟩
theorem SI.step (x:SI T P X hb R O r d h σ st) (c:Chg [P] h h') (y:PC T P (O::R::X) h' σ' st'):SI T P X hb R O r d h' σ' st':=
 x.step2 (c.mono (by simp)) y (x.oO.chg c (by have:=x.le;simp;omega)) ⟨rfl,rfl,rfl,rfl,rfl,rfl⟩
theorem SI.step0 (x:SI T P X hb R O r d h σ st) (c:Chg [] h h'):SI T P X hb R O r d h' σ st:=x.step (c.mono (by simp)) (x.pc.chg c)
theorem SI.lt (x:SI T P X hb R O r d h σ st):O<h.next:=x.oO.2
theorem SI.put' (x:SI T P X hb R O r d h σ st) (r':SmR):Chg [O] h (h.put O (.row (smc r') .own))∧PC T P (O::R::X) (h.put O (.row (smc r') .own)) σ st∧Chg [P] hb (h.put O (.row (smc r') .own))∧(h.put O (.row (smc r') .own)).own R (smc (wF 0))∧(h.put O (.row (smc r') .own)).own O (smc r'):=by
 have c:=x.oO.put (smc r')
 have:=x.le
 exact ⟨c,x.pc.chg1 c (by simp),x.chg.step c (fun A hA hl=>by rw [List.mem_singleton] at hA;omega),x.oR.chg c (by simp;omega),yA x.oO _⟩
theorem SI.setK (x0:SI T P X hb R O r d h σ st) (v:Int):∃ h',h.store (O,0) [.int .i64 v]=some h'∧SI T P X hb R O { r with k:=v } d h' σ st∧Chg [O] h h':=by
 obtain ⟨c,y,cb,oR,oO⟩:=x0.put' { r with k:=v };have hM:∀ A,O<A→A ∉ [O]:=fun C hC=>by simp;omega
 exact ⟨_,fD x0.oO (by simp only [smc,smx,smv,aF,yE,cG,Option.map_some]),⟨y,cb,oR,oO,x0.le,x0.dty.chg c hM,x0.dpl.chg c hM,x0.dva.chg c hM,x0.dco.chg c hM,x0.dth.chg c hM,x0.del.chg c hM⟩,c⟩
theorem SI.setM (x0:SI T P X hb R O r d h σ st) (v:Bool):∃ h',h.store (O,2) [.bool v]=some h'∧SI T P X hb R O { r with m:=v } d h' σ st∧Chg [O] h h':=by
 obtain ⟨c,y,cb,oR,oO⟩:=x0.put' { r with m:=v };have hM:∀ A,O<A→A ∉ [O]:=fun C hC=>by simp;omega
 exact ⟨_,fD x0.oO (by simp only [smc,smx,smv,aF,yE,cG,Option.map_some]),⟨y,cb,oR,oO,x0.le,x0.dty.chg c hM,x0.dpl.chg c hM,x0.dva.chg c hM,x0.dco.chg c hM,x0.dth.chg c hM,x0.del.chg c hM⟩,c⟩
theorem SI.setN (x0:SI T P X hb R O r d h σ st) (v:Bs):∃ h',h.store (O,3) [.str v]=some h'∧SI T P X hb R O { r with nm:=v } d h' σ st∧Chg [O] h h':=by
 obtain ⟨c,y,cb,oR,oO⟩:=x0.put' { r with nm:=v };have hM:∀ A,O<A→A ∉ [O]:=fun C hC=>by simp;omega
 exact ⟨_,fD x0.oO (by simp only [smc,smx,smv,aF,yE,cG,Option.map_some]),⟨y,cb,oR,oO,x0.le,x0.dty.chg c hM,x0.dpl.chg c hM,x0.dva.chg c hM,x0.dco.chg c hM,x0.dth.chg c hM,x0.del.chg c hM⟩,c⟩
theorem SI.setT (x0:SI T P X hb R O r d h σ st) (v:TyV) {x:D} (hd:Dt h (fun C=>O<C) x (tyc v)):∃ h',h.store (O,4) [.int .i64 v.1,.str v.2.1,.slice v.2.2.1.a v.2.2.1.len v.2.2.1.cap v.2.2.1.sz,.slice v.2.2.2.1.a v.2.2.2.1.len v.2.2.2.1.cap v.2.2.2.1.sz]=some h'∧SI T P X hb R O { r with ty:=v } { d with ty:=x } h' σ st∧Chg [O] h h':=by
 obtain ⟨c,y,cb,oR,oO⟩:=x0.put' { r with ty:=v };have hM:∀ A,O<A→A ∉ [O]:=fun C hC=>by simp;omega
 exact ⟨_,fD x0.oO (by simp only [smc,smx,smv,aF,yE,cG,Option.map_some]),⟨y,cb,oR,oO,x0.le,hd.chg c hM,x0.dpl.chg c hM,x0.dva.chg c hM,x0.dco.chg c hM,x0.dth.chg c hM,x0.del.chg c hM⟩,c⟩
theorem SI.setH (x0:SI T P X hb R O r d h σ st) (v:Bool):∃ h',h.store (O,8) [.bool v]=some h'∧SI T P X hb R O { r with has:=v } d h' σ st∧Chg [O] h h':=by
 obtain ⟨c,y,cb,oR,oO⟩:=x0.put' { r with has:=v };have hM:∀ A,O<A→A ∉ [O]:=fun C hC=>by simp;omega
 exact ⟨_,fD x0.oO (by simp only [smc,smx,smv,aF,yE,cG,Option.map_some]),⟨y,cb,oR,oO,x0.le,x0.dty.chg c hM,x0.dpl.chg c hM,x0.dva.chg c hM,x0.dco.chg c hM,x0.dth.chg c hM,x0.del.chg c hM⟩,c⟩
theorem SI.setP (x0:SI T P X hb R O r d h σ st) (v:LfV) {x:D} (hd:Dt h (fun C=>O<C) x (lfc v)):∃ h',h.store (O,9) [.str v.1,.slice v.2.1.a v.2.1.len v.2.1.cap v.2.1.sz]=some h'∧SI T P X hb R O { r with pl:=v } { d with pl:=x } h' σ st∧Chg [O] h h':=by
 obtain ⟨c,y,cb,oR,oO⟩:=x0.put' { r with pl:=v };have hM:∀ A,O<A→A ∉ [O]:=fun C hC=>by simp;omega
 exact ⟨_,fD x0.oO (by simp only [smc,smx,smv,aF,yE,cG,Option.map_some]),⟨y,cb,oR,oO,x0.le,x0.dty.chg c hM,hd.chg c hM,x0.dva.chg c hM,x0.dco.chg c hM,x0.dth.chg c hM,x0.del.chg c hM⟩,c⟩
theorem SI.setV (x0:SI T P X hb R O r d h σ st) (v:VaV) {x:D} (hd:Dt h (fun C=>O<C) x (vac v)):∃ h',h.store (O,11) [.int .i64 v.1,.int .i64 v.2.1,.int .i64 v.2.2.1,.str v.2.2.2.1,.slice v.2.2.2.2.1.a v.2.2.2.2.1.len v.2.2.2.2.1.cap v.2.2.2.2.1.sz,.int .i64 v.2.2.2.2.2.1,.int .i64 v.2.2.2.2.2.2.1,.str v.2.2.2.2.2.2.2.1,.slice v.2.2.2.2.2.2.2.2.1.a v.2.2.2.2.2.2.2.2.1.len v.2.2.2.2.2.2.2.2.1.cap v.2.2.2.2.2.2.2.2.1.sz,.int .i64 v.2.2.2.2.2.2.2.2.2.1,.str v.2.2.2.2.2.2.2.2.2.2.1,.slice v.2.2.2.2.2.2.2.2.2.2.2.1.a v.2.2.2.2.2.2.2.2.2.2.2.1.len v.2.2.2.2.2.2.2.2.2.2.2.1.cap v.2.2.2.2.2.2.2.2.2.2.2.1.sz,.str v.2.2.2.2.2.2.2.2.2.2.2.2.1,.slice v.2.2.2.2.2.2.2.2.2.2.2.2.2.1.a v.2.2.2.2.2.2.2.2.2.2.2.2.2.1.len v.2.2.2.2.2.2.2.2.2.2.2.2.2.1.cap v.2.2.2.2.2.2.2.2.2.2.2.2.2.1.sz,.slice v.2.2.2.2.2.2.2.2.2.2.2.2.2.2.1.a v.2.2.2.2.2.2.2.2.2.2.2.2.2.2.1.len v.2.2.2.2.2.2.2.2.2.2.2.2.2.2.1.cap v.2.2.2.2.2.2.2.2.2.2.2.2.2.2.1.sz]=some h'∧SI T P X hb R O { r with va:=v } { d with va:=x } h' σ st∧Chg [O] h h':=by
 obtain ⟨c,y,cb,oR,oO⟩:=x0.put' { r with va:=v };have hM:∀ A,O<A→A ∉ [O]:=fun C hC=>by simp;omega
 exact ⟨_,fD x0.oO (by simp only [smc,smx,smv,aF,yE,cG,Option.map_some]),⟨y,cb,oR,oO,x0.le,x0.dty.chg c hM,x0.dpl.chg c hM,hd.chg c hM,x0.dco.chg c hM,x0.dth.chg c hM,x0.del.chg c hM⟩,c⟩
theorem SI.setC (x0:SI T P X hb R O r d h σ st) (v:OpV) {x:D} (hd:Dt h (fun C=>O<C) x (opc v)):∃ h',h.store (O,26) [.int .i64 v.1,.int .i64 v.2.1,.str v.2.2.1,.slice v.2.2.2.1.a v.2.2.2.1.len v.2.2.2.1.cap v.2.2.2.1.sz]=some h'∧SI T P X hb R O { r with co:=v } { d with co:=x } h' σ st∧Chg [O] h h':=by
 obtain ⟨c,y,cb,oR,oO⟩:=x0.put' { r with co:=v };have hM:∀ A,O<A→A ∉ [O]:=fun C hC=>by simp;omega
 exact ⟨_,fD x0.oO (by simp only [smc,smx,smv,aF,yE,cG,Option.map_some]),⟨y,cb,oR,oO,x0.le,x0.dty.chg c hM,x0.dpl.chg c hM,x0.dva.chg c hM,hd.chg c hM,x0.dth.chg c hM,x0.del.chg c hM⟩,c⟩
theorem SI.setTh (x0:SI T P X hb R O r d h σ st) (v:SL) {x:List D} (hd:Sl h (fun C=>O<C) v x):∃ h',h.store (O,30) [.slice v.a v.len v.cap v.sz]=some h'∧SI T P X hb R O { r with th:=v } { d with th:=x } h' σ st∧Chg [O] h h':=by
 obtain ⟨c,y,cb,oR,oO⟩:=x0.put' { r with th:=v };have hM:∀ A,O<A→A ∉ [O]:=fun C hC=>by simp;omega
 exact ⟨_,fD x0.oO (by simp only [smc,smx,smv,aF,yE,cG,Option.map_some]),⟨y,cb,oR,oO,x0.le,x0.dty.chg c hM,x0.dpl.chg c hM,x0.dva.chg c hM,x0.dco.chg c hM,hd.chg c hM,x0.del.chg c hM⟩,c⟩
theorem SI.setEl (x0:SI T P X hb R O r d h σ st) (v:SL) {x:List D} (hd:Sl h (fun C=>O<C) v x):∃ h',h.store (O,31) [.slice v.a v.len v.cap v.sz]=some h'∧SI T P X hb R O { r with el:=v } { d with el:=x } h' σ st∧Chg [O] h h':=by
 obtain ⟨c,y,cb,oR,oO⟩:=x0.put' { r with el:=v };have hM:∀ A,O<A→A ∉ [O]:=fun C hC=>by simp;omega
 exact ⟨_,fD x0.oO (by simp only [smc,smx,smv,aF,yE,cG,Option.map_some]),⟨y,cb,oR,oO,x0.le,x0.dty.chg c hM,x0.dpl.chg c hM,x0.dva.chg c hM,x0.dco.chg c hM,x0.dth.chg c hM,hd.chg c hM⟩,c⟩
end
def lAg (T:List Tok) (at_:Int) (σ:St):D×St:=
 let m:=jB T [109,117,116] σ
 let n:=pB T 1 m.2
 let t:=oH T 64 (uC T [58] n.2)
 let b:=jB T [61] t.2
 if b.1=true then
  let v:=iG T b.2
  (smD { wF at_ with k:=1,m:=m.1,nm:=n.1,has:=true } { bK with ty:=t.1,va:=v.1 },uC T [59] v.2)
 else (smD { wF at_ with k:=1,m:=m.1,nm:=n.1 } { bK with ty:=t.1 },uC T [59] b.2)
section
variable {N:Nat} {T:List Tok} {P:Nat} {X:List Nat} {st:Int} {hb h:Heap} {R O:Nat} {σ:St}
def eBh (T:List Tok) (P:Nat) (X:List Nat) (hb:Heap) (R O:Nat) (st:Int) (h:Heap) (x:D×St):Prop:=∃ r d,SI T P X hb R O r d h x.2 st∧x.1=smD r d
theorem rK {r r':SmR} {d:SmT} (e:r.k=r'.k∧r.at_=r'.at_∧r.m=r'.m∧r.nm=r'.nm∧r.has=r'.has):smD r d=smD r' d:=by
 obtain ⟨e1,e2,e3,e4,e5⟩:=e;simp only [smD,e1,e2,e3,e4,e5]
theorem kB4 (hT:Toks T) (hN:100≤N) {at_:Int} (x:SI T P X hb R O (wF at_) bK h σ st):∃ h',f207 N (some (P,0)) (some (O,0)) h=some ((),h')∧eBh T P X hb R O st h' (lAg T at_ σ):=by
 unfold f207;have hO:=x.le;obtain ⟨h2,e2,c2,y2⟩:=iI (N:=N) hT x.pc (w:=[109,117,116]) (by decide);rw [e2,aA];have x2:=x.step c2 y2;simp only [lAg];generalize (jB T [109,117,116] σ).1=m at *;generalize (jB T [109,117,116] σ).2=τ at *;simp only [dA,Nat.zero_add];obtain ⟨h4,e4,x4,c4⟩:=x2.setK 1;rw [e4,dA];obtain ⟨h6,e6,x6,c6⟩:=x4.setM m;rw [e6,dA];obtain ⟨f,h8,e8,y8,c8,d8,nm,t,hf,hfd,dt⟩:=eAg (N:=N) hT hN x6.pc;have hnm:nm=(pB T 1 τ).1:=by
  simp only [bF,fdD,D.t.injEq,List.cons.injEq,D.s.injEq,true_and,and_true] at hfd;exact hfd.symm
 rw [e8,aA];have x8:=x6.step c8 y8;have hlt6:=x6.lt;have hn8:=c8.next;have oA0:=vA h8 (fdc fd0);have cA0:=qA h8 (.row (fdc fd0) .own);have eA:h8.push (.row [(.bool false),(.str []),(.int .i64 0),(.str []),(.slice none 0 0 0),(.slice none 0 0 0)] .own)=h8.push (.row (fdc fd0) .own):=rfl;rw [eA,dAs oA0 f,dA];have oA1:=yA oA0 (fdc f);have cA1:Chg [] h8 ((h8.push (.row (fdc fd0) .own)).put h8.next (.row (fdc f) .own)):=cA0.put (.inr (Nat.le_refl _)) _;have n1:((h8.push (.row (fdc fd0) .own)).put h8.next (.row (fdc f) .own)).next=h8.next+1:=rfl;generalize (h8.push (.row (fdc fd0) .own)).put h8.next (.row (fdc f) .own)=h10 at *;have x10:=x8.step0 cA1;have dt10:Dt h10 (fun C=>O<C) (oH T 64 (uC T [58] (pB T 1 τ).2)).1 (tyc t):=(dt.chg cA1 (by simp)).weak fun C hC _=>by omega
 subst hf;have k1:∀ {H:Heap},H.own h8.next (fdc (mS false nm t))→H.cell (h8.next,0+1)=some (.str nm):=fun o=>o.cell 1;have k2:∀ {H:Heap},H.own h8.next (fdc (mS false nm t))→H.cells (h8.next,0+2) 4=some (.agg (tyc t)):=fun o=>o.cells (j:=2) (m:=4) (by show 2+4≤6;omega);rw [k1 oA1,fA,cD,k2 oA1,jAm];have htyc:tyc t=[(.int .i64 t.1),(.str t.2.1),(.slice t.2.2.1.a t.2.2.1.len t.2.2.1.cap t.2.2.1.sz),(.slice t.2.2.2.1.a t.2.2.2.1.len t.2.2.2.1.cap t.2.2.2.1.sz)]:=rfl;obtain ⟨h14,e14,x14,c14⟩:=x10.setN nm
 try simp only [Nat.zero_add]
 rw [e14,dA];have dt14:=dt10.chg c14 (fun C hC=>by simp;omega);obtain ⟨h16,e16,x16,c16⟩:=x14.setT t dt14;rw [e16,dA];have hOA:h8.next ∉ [O]:=by simp;omega
 have oA14:=oA1.chg c14 hOA;have q1:h10.cell (h8.next,1)=some (.str nm):=oA1.cell 1;have q2:h10.cells (h8.next,2) 4=some (.agg [(.int .i64 t.1),(.str t.2.1),(.slice t.2.2.1.a t.2.2.1.len t.2.2.1.cap t.2.2.1.sz),(.slice t.2.2.2.1.a t.2.2.2.1.len t.2.2.2.1.cap t.2.2.2.1.sz)]):=k2 oA1;have q3:h14.cells (h8.next,2) 4=some (.agg [(.int .i64 t.1),(.str t.2.1),(.slice t.2.2.1.a t.2.2.1.len t.2.2.1.cap t.2.2.1.sz),(.slice t.2.2.2.1.a t.2.2.2.1.len t.2.2.2.1.cap t.2.2.2.1.sz)]):=k2 oA14;simp only [q1,q2,q3,htyc,wC,cond_true,aC];have hσ:(bF T τ).2=(oH T 64 (uC T [58] (pB T 1 τ).2)).2:=rfl;rw [hσ] at x16;subst hnm;generalize (oH T 64 (uC T [58] (pB T 1 τ).2))=tt at *;obtain ⟨h18,e18,c18,y18⟩:=qI (N:=N) hT x16.pc (w:=[61]) (by decide);rw [e18,aA];have x18:=x16.step c18 y18;obtain ⟨h20,e20,x20,c20⟩:=x18.setH (jB T [61] tt.2).1;rw [e20,dA];have r20:h20.cell (O,8)=some (.bool (jB T [61] tt.2).1):=x20.oO.cell 8;simp only [r20,fA,rB]
 cases hbb:(jB T [61] tt.2).1 with
 | true=>
  simp only [cond_true,if_true];obtain ⟨v,h24,e24,y24,c24,d24⟩:=kAg (N:=N) hT hN x20.pc;rw [e24,aA];have x24:=x20.step c24 y24;have hlt:=x20.lt;obtain ⟨h26,e26,x26,c26⟩:=x24.setV v (d24.weak fun C hC _=>by omega);rw [e26,dA];obtain ⟨h28,e28,c28,y28⟩:=gG (N:=N) hT x26.pc (w:=[59]) (by decide);rw [e28,aA];exact ⟨_,rfl,_,_,x26.step c28 y28,rK ⟨rfl,rfl,rfl,rfl,by simp only [hbb]⟩⟩
 | false=>
  simp only [cond_false,Bool.false_eq_true,if_false];obtain ⟨h28,e28,c28,y28⟩:=gG (N:=N) hT x20.pc (w:=[59]) (by decide);rw [e28,aA];exact ⟨_,rfl,_,_,x20.step c28 y28,rK ⟨rfl,rfl,rfl,rfl,by simp only [hbb];rfl⟩⟩
end
end Qp
namespace Qp
def dG (T:List Tok) (at_:Int) (σ:St):D×St:=
 let a:=jB T [98,114,101,97,107] σ
 if a.1=true then (smD { wF at_ with k:=8 } bK,a.2) else
 let b:=jB T [99,111,110,116,105,110,117,101] a.2
 if b.1=true then (smD { wF at_ with k:=9 } bK,b.2) else
 let c:=jB T [114,101,116,117,114,110] b.2
 if c.1=true then
  if (jB T [59] c.2).1=true then (smD { wF at_ with k:=10 } bK,c.2)
  else (smD { wF at_ with k:=10,has:=true } { bK with va:=(iG T c.2).1 },(iG T c.2).2)
 else
 let d:=jB T [100,114,111,112] c.2
 if d.1=true then (smD { wF at_ with k:=11 } { bK with pl:=(uE T d.2).1 },(uE T d.2).2) else
 if qD T d.2=true then
  let n:=wG T d.2
  let l:=lL T n.2
  (smD { wF at_ with k:=3 } { bK with va:=vaD 6 op0 op0 0 pl0 n.1 [] l.1 },l.2)
 else
  let p:=uE T d.2
  let v:=iG T (uC T [61] p.2)
  (smD { wF at_ with k:=2 } { bK with pl:=p.1,va:=v.1 },v.2)
section
variable {T:List Tok} {P:Nat} {X:List Nat} {st st':Int} {hb h h':Heap} {R O:Nat} {r r':SmR} {d d':SmT} {σ σ':St}
theorem SI.stepV (x:SI T P X hb R O r d h σ st) (c:Chg [P,O] h h') (y:PC T P (O::R::X) h' σ' st') {v:VaV} (o:h'.own O (smc { r with va:=v })) {w:D} (hd:Dt h' (fun C=>O<C) w (vac v)):SI T P X hb R O { r with va:=v } { d with va:=w } h' σ' st':=by
 obtain ⟨x1,x2,x3,x4,x5,x6,x7,x8,x9,x10,x11⟩:=x;have hM:∀ A,O<A→A ∉ [P,O]:=fun C hC=>by simp;omega
 exact ⟨y,x2.step c (fun A hA hl=>by simp only [List.mem_cons,List.not_mem_nil,or_false] at hA ⊢;omega),x3.chg c (by simp;omega),o,x5,x6.chg c hM,x7.chg c hM,hd,x9.chg c hM,x10.chg c hM,x11.chg c hM⟩
end
theorem pBj (r:SmR) (k op:Int) (a b:OpV) (pl:LfV) (nm:Bs) (v w:SL):(smc { r with va:=iF k a b op pl nm v w })[11+14]? = some (SL.av w):=by simp [smc,smx,smv,iF,SL.av]
theorem qBj (r:SmR) (k op:Int) (a b:OpV) (pl:LfV) (nm:Bs) (v w w':SL):(smc { r with va:=iF k a b op pl nm v w }).set (11+14) (SL.av w')=smc { r with va:=iF k a b op pl nm v w' }:=by simp [smc,smx,smv,iF,SL.av]
section
variable {N:Nat} {T:List Tok} {P:Nat} {X:List Nat} {st:Int} {hb h:Heap} {R O:Nat} {σ:St}
theorem lB4 (hT:Toks T) (hN:100≤N) {at_:Int} (x:SI T P X hb R O (wF at_) bK h σ st):∃ h',f209 N (some (P,0)) (some (O,0)) h=some ((),h')∧eBh T P X hb R O st h' (dG T at_ σ):=by
 unfold f209;have hO:=x.le;obtain ⟨h2,e2,c2,y2⟩:=iI (N:=N) hT x.pc (w:=[98,114,101,97,107]) (by decide);rw [e2,aA];have x2:=x.step c2 y2;simp only [dG]
 cases hb1:(jB T [98,114,101,97,107] σ).1 with
 | true=>
  simp only [cond_true,if_true,dA,Nat.zero_add];obtain ⟨h4,e4,x4,c4⟩:=x2.setK 8;rw [e4,dA];exact ⟨_,rfl,_,_,x4,rK ⟨rfl,rfl,rfl,rfl,rfl⟩⟩
 | false=>
 simp only [cond_false,Bool.false_eq_true,if_false];generalize (jB T [98,114,101,97,107] σ).2=σ2 at *;obtain ⟨h6,e6,c6,y6⟩:=iI (N:=N) hT x2.pc (w:=[99,111,110,116,105,110,117,101]) (by decide);rw [e6,aA];have x6:=x2.step c6 y6
 cases hb2:(jB T [99,111,110,116,105,110,117,101] σ2).1 with
 | true=>
  simp only [cond_true,if_true,dA,Nat.zero_add];obtain ⟨h8,e8,x8,c8⟩:=x6.setK 9;rw [e8,dA];exact ⟨_,rfl,_,_,x8,rK ⟨rfl,rfl,rfl,rfl,rfl⟩⟩
 | false=>
 simp only [cond_false,Bool.false_eq_true,if_false];generalize (jB T [99,111,110,116,105,110,117,101] σ2).2=σ3 at *;obtain ⟨h10,e10,c10,y10⟩:=iI (N:=N) hT x6.pc (w:=[114,101,116,117,114,110]) (by decide);rw [e10,aA];have x10:=x6.step c10 y10
 cases hb3:(jB T [114,101,116,117,114,110] σ3).1 with
 | true=>
  simp only [cond_true,if_true,dA,Nat.zero_add];obtain ⟨h12,e12,x12,c12⟩:=x10.setK 10;rw [e12,dA];obtain ⟨h14,e14,c14⟩:=jAg (N:=N) hT x12.pc (w:=[59]) (by decide);rw [e14,aA];have x14:=x12.step0 c14;generalize (jB T [114,101,116,117,114,110] σ3).2=σ4 at *;obtain ⟨h17,e17,x17,c17⟩:=x14.setH (!(jB T [59] σ4).1);rw [e17,dA];have r17:h17.cell (O,8)=some (.bool (!(jB T [59] σ4).1)):=x17.oO.cell 8;simp only [r17,fA,rB]
  cases hb4:(jB T [59] σ4).1 with
  | true=>
   rw [hb4] at x17;simp only [Bool.not_true,cond_false,if_true];exact ⟨_,rfl,_,_,x17,rK ⟨rfl,rfl,rfl,rfl,rfl⟩⟩
  | false=>
   rw [hb4] at x17;simp only [Bool.not_false,cond_true,Bool.false_eq_true,if_false];obtain ⟨v,h24,e24,y24,c24,d24⟩:=kAg (N:=N) hT hN x17.pc;rw [e24,aA];have x24:=x17.step c24 y24;have hlt:=x17.lt;obtain ⟨h26,e26,x26,c26⟩:=x24.setV v (d24.weak fun C hC _=>by omega);rw [e26,dA];exact ⟨_,rfl,_,_,x26,rK ⟨rfl,rfl,rfl,rfl,rfl⟩⟩
 | false=>
 simp only [cond_false,Bool.false_eq_true,if_false];generalize (jB T [114,101,116,117,114,110] σ3).2=σ4 at *;obtain ⟨h25,e25,c25,y25⟩:=iI (N:=N) hT x10.pc (w:=[100,114,111,112]) (by decide);rw [e25,aA];have x25:=x10.step c25 y25
 cases hb4:(jB T [100,114,111,112] σ4).1 with
 | true=>
  simp only [cond_true,if_true,dA,Nat.zero_add];obtain ⟨p,h27,e27,y27,c27,d27⟩:=rA2 (N:=N) hT hN x25.pc;rw [e27,aA];have x27:=x25.step c27 y27;have hlt:=x25.lt;obtain ⟨h29,e29,x29,c29⟩:=x27.setK 11;rw [e29,dA];obtain ⟨h31,e31,x31,c31⟩:=x29.setP p ((d27.weak (W:=fun C=>O<C) fun C hC _=>by omega).chg c29 (fun C hC=>by simp;omega));rw [e31,dA];exact ⟨_,rfl,_,_,x31,rK ⟨rfl,rfl,rfl,rfl,rfl⟩⟩
 | false=>
 simp only [cond_false,Bool.false_eq_true,if_false];generalize (jB T [100,114,111,112] σ4).2=σ5 at *;obtain ⟨h33,e33,c33⟩:=iAs (N:=N) hT x25.pc;rw [e33,aA];have x33:=x25.step0 c33
 cases hb5:qD T σ5 with
 | true=>
  simp only [cond_true,if_true,dA,Nat.zero_add];obtain ⟨h35,e35,c35,y35⟩:=mAz (N:=N) hT x33.pc;rw [e35,aA];have x35:=x33.step c35 y35;obtain ⟨h37,e37,x37,c37⟩:=x35.setK 3;rw [e37,dA];generalize (wG T σ5).1=nm at *;generalize (wG T σ5).2=σ6 at *;obtain ⟨h39,e39,x39,c39⟩:=x37.setV (iF 6 rE rE 0 lf0 nm sl0 sl0) (tA2 (jI _ _) (jI _ _) (kL _ _) (Sl.nil _ _ _) (Sl.nil _ _ _):Dt h37 _ (vaD 6 op0 op0 0 pl0 nm [] []) _);have e39':h37.store (O,11) [(.int .i64 6),(.int .i64 0),(.int .i64 0),(.str []),(.slice none 0 0 0),(.int .i64 0),(.int .i64 0),(.str []),(.slice none 0 0 0),(.int .i64 0),(.str []),(.slice none 0 0 0),(.str nm),(.slice none 0 0 0),(.slice none 0 0 0)]=some h39:=e39;rw [e39',dA];obtain ⟨v,h42,e42,y42,c42,o42,s42⟩:=lAs (N:=N) (off:=11) (row:=fun v=>smc { wF at_ with k:=3,va:=iF 6 rE rE 0 lf0 nm sl0 v }) hT hN x39.pc (O:=O) (by omega) (by simp) (fun v=>pBj { wF at_ with k:=3 } 6 0 rE rE lf0 nm sl0 v) (fun v v'=>qBj { wF at_ with k:=3 } 6 0 rE rE lf0 nm sl0 v v') x39.oO;rw [e42,aA];have hlt:=x39.lt;exact ⟨_,rfl,_,_,x39.stepV c42 y42 (v:=iF 6 rE rE 0 lf0 nm sl0 v) o42 (w:=vaD 6 op0 op0 0 pl0 nm [] (lL T σ6).1) (tA2 (jI _ _) (jI _ _) (kL _ _) (Sl.nil _ _ _) (s42.weak fun C hC _=>by omega)),rK ⟨rfl,rfl,rfl,rfl,rfl⟩⟩
 | false=>
  simp only [cond_false,Bool.false_eq_true,if_false,dA,Nat.zero_add];obtain ⟨p,h44,e44,y44,c44,d44⟩:=rA2 (N:=N) hT hN x33.pc;rw [e44,aA];have x44:=x33.step c44 y44;have hlt:=x33.lt;obtain ⟨h46,e46,x46,c46⟩:=x44.setK 2;rw [e46,dA];obtain ⟨h48,e48,x48,c48⟩:=x46.setP p ((d44.weak (W:=fun C=>O<C) fun C hC _=>by omega).chg c46 (fun C hC=>by simp;omega));rw [e48,dA];obtain ⟨h50,e50,c50,y50⟩:=gG (N:=N) hT x48.pc (w:=[61]) (by decide);rw [e50,aA];have x50:=x48.step c50 y50;obtain ⟨v,h52,e52,y52,c52,d52⟩:=kAg (N:=N) hT hN x50.pc;rw [e52,aA];have x52:=x50.step c52 y52;have hlt5:=x50.lt;obtain ⟨h54,e54,x54,c54⟩:=x52.setV v (d52.weak fun C hC _=>by omega);rw [e54,dA];exact ⟨_,rfl,_,_,x54,rK ⟨rfl,rfl,rfl,rfl,rfl⟩⟩
end
end Qp
namespace Qp
section
variable (T:List Tok) (i:Nat) (e:Int×Int)
theorem eG (w:Bs):jB T w (i,some e)=(false,(i,some e)):=by simp [jB]
theorem vU (k:Int):pB T k (i,some e)=([],(i,some e)):=rfl
theorem uAc (k:Int):jE T k (i,some e)=(i,some e):=rfl
theorem cF (w:Bs):uC T w (i,some e)=(i,some e):=by simp [uC,eG,uAc]
theorem wZ (g:Nat):oH T g (i,some e)=(ty0D,(i,some e)):=by cases g <;> rfl
theorem uA2 (g:Nat):pH T g (i,some e)=([],(i,some e)):=by cases g <;> simp [pH,eG]
theorem mA6:uE T (i,some e)=(pl0,(i,some e)):=by simp [uE,vU,uA2,pl0]
theorem nAs:(kE T (i,some e)).2=(i,some e):=by
 simp only [kE,eG,Bool.false_eq_true,if_false]
 by_cases h:(tk T i).1=4
 ·rw [if_pos h];simp [vU]
 ·rw [if_neg h];simp [mA6]
theorem oAs:∀ (l:List Bs) (k:Int),opS T l k (i,some e)=(none,(i,some e))
 | [],_=>rfl
 | s::r,k=>by simp only [opS,eG,Bool.false_eq_true,if_false];exact oAs r _
theorem nA6:qD T (i,some e)=false:=by simp [qD,mC]
theorem mAg (w:Bs):mC T w (i,some e)=false:=by simp [mC]
theorem gQ:(iG T (i,some e)).2=(i,some e):=by
 simp only [iG,eG,Bool.false_eq_true,if_false,nA6,mAg,Bool.or_false,nAs,oAs]
theorem oA6 (a:Int):(dG T a (i,some e)).2=(i,some e):=by
 simp only [dG,eG,Bool.false_eq_true,if_false,nA6,mA6,cF,gQ]
end
theorem iQ {σ:St} (h:σ.2.isSome=true):∃ i e,σ=(i,some e):=by
 obtain ⟨i,e⟩:=σ
 cases e with
 | none=>cases h
 | some q=>exact ⟨i,q,rfl⟩
theorem uF {T:List Tok} {i:Nat} (h:(tk T i).1=0) (w:Bs):jB T w (i,none)=(false,(i,none)):=by
 have:isS T w i=false:=by simp [isS,h]
 simp [jB,this]
abbrev SC:=St×Nat
def KS (s:SC):Prop:=s.2≤2000∨s.1.2.isSome=true
def KE (T:List Tok) (s:SC):Prop:=KS s∨(s.2≤2001∧(tk T s.1.1).1=0)
theorem KS.err {σ:St} {c:Nat} (h:KS (σ,c)) {τ:St} (hs:∀ i e,σ=(i,some e)→τ=(i,some e)):KS (τ,c):=by
 rcases h with h | h
 ·exact .inl h
 ·obtain ⟨i,e,rfl⟩:=iQ h
  rw [hs i e rfl];exact .inr rfl
def yI (T:List Tok) (blk:SC→List D×SC) (s:SC):D×SC:=
 let at_:Int:=((tk T s.1.1).2.2:Int)
 let a:=jB T [108,101,116] s.1
 if a.1=true then ((lAg T at_ a.2).1,((lAg T at_ a.2).2,s.2)) else
 let b:=jB T [105,102] a.2
 if b.1=true then
  let o:=kE T b.2
  let t:=blk (o.2,s.2)
  let e:=jB T [101,108,115,101] t.2.1
  if e.1=true then
   let f:=blk (e.2,t.2.2)
   (smD { wF at_ with k:=4,has:=true } { bK with co:=o.1,th:=t.1,el:=f.1 },f.2)
  else (smD { wF at_ with k:=4 } { bK with co:=o.1,th:=t.1 },(e.2,t.2.2))
 else
 let c:=jB T [119,104,105,108,101] b.2
 if c.1=true then
  let o:=kE T c.2
  let t:=blk (o.2,s.2)
  (smD { wF at_ with k:=5 } { bK with co:=o.1,th:=t.1 },t.2)
 else
 let d:=jB T [108,111,111,112] c.2
 if d.1=true then
  let t:=blk (d.2,s.2)
  (smD { wF at_ with k:=6 } { bK with th:=t.1 },t.2)
 else
 if (jB T [123] d.2).1=true then
  let t:=blk (d.2,s.2)
  (smD { wF at_ with k:=7 } { bK with th:=t.1 },t.2)
 else
  let x:=dG T at_ d.2
  (x.1,(uC T [59] x.2,s.2))
def lBb (N:Nat) (T:List Tok) (P:Nat) (F:zJ2→Int→Heap→Option (SL×Heap)) (blk:SC→List D×SC) (deep:Int):Prop:=∀ (X:List Nat) (h:Heap) (σ:St) (c:Nat),PC T P X h σ (c:Int)→KS (σ,c)→∃ v h',F (some (P,0)) deep h=some (v,h')∧PC T P X h' (blk (σ,c)).2.1 ((blk (σ,c)).2.2:Int)∧Chg [P] h h'∧Sl h' (fun C=>h.next≤C) v (blk (σ,c)).1
theorem fBh {β:Type} (r:SmV) (K:SmV→Option β):iA (.val zA) (some (.agg (smx r))) K=K r:=by
 obtain ⟨x1,x2,x3,x4,x5,x6,x7,x8,x9,x10,x11,x12,x13,x14,x15,x16,x17,x18,x19,x20,x21,x22,x23,x24,x25,x26,x27,x28,x29,x30,x31,x32,_⟩:=r;simp [smx]
theorem pAs {H:Heap} {A:Nat} {r:SmV} (o:H.own A (smx r)) {β:Type} (K:SmV→Option β):iA (.val zA) (H.cells (A,0) 32) K=K r:=by
 have:H.cells (A,0) 32=some (.agg (smx r)):=o.cells (j:=0) (m:=32) (Nat.le_refl _)
 rw [this,fBh]
theorem rBj {H:Heap} {A:Nat} {r0:SmV} (o:H.own A (smx r0)) (r:SmV) {β:Type} (K:SmV→Heap→Option β) :
  (rA (H.store (A,0) [.int .i64 r.1,.int .i64 r.2.1,.bool r.2.2.1,.str r.2.2.2.1,.int .i64 r.2.2.2.2.1,.str r.2.2.2.2.2.1,.slice r.2.2.2.2.2.2.1.a r.2.2.2.2.2.2.1.len r.2.2.2.2.2.2.1.cap r.2.2.2.2.2.2.1.sz,.slice r.2.2.2.2.2.2.2.1.a r.2.2.2.2.2.2.2.1.len r.2.2.2.2.2.2.2.1.cap r.2.2.2.2.2.2.2.1.sz,.bool r.2.2.2.2.2.2.2.2.1,.str r.2.2.2.2.2.2.2.2.2.1,.slice r.2.2.2.2.2.2.2.2.2.2.1.a r.2.2.2.2.2.2.2.2.2.2.1.len r.2.2.2.2.2.2.2.2.2.2.1.cap r.2.2.2.2.2.2.2.2.2.2.1.sz,.int .i64 r.2.2.2.2.2.2.2.2.2.2.2.1,.int .i64 r.2.2.2.2.2.2.2.2.2.2.2.2.1,.int .i64 r.2.2.2.2.2.2.2.2.2.2.2.2.2.1,.str r.2.2.2.2.2.2.2.2.2.2.2.2.2.2.1,.slice r.2.2.2.2.2.2.2.2.2.2.2.2.2.2.2.1.a r.2.2.2.2.2.2.2.2.2.2.2.2.2.2.2.1.len r.2.2.2.2.2.2.2.2.2.2.2.2.2.2.2.1.cap r.2.2.2.2.2.2.2.2.2.2.2.2.2.2.2.1.sz,.int .i64 r.2.2.2.2.2.2.2.2.2.2.2.2.2.2.2.2.1,.int .i64 r.2.2.2.2.2.2.2.2.2.2.2.2.2.2.2.2.2.1,.str r.2.2.2.2.2.2.2.2.2.2.2.2.2.2.2.2.2.2.1,.slice r.2.2.2.2.2.2.2.2.2.2.2.2.2.2.2.2.2.2.2.1.a r.2.2.2.2.2.2.2.2.2.2.2.2.2.2.2.2.2.2.2.1.len r.2.2.2.2.2.2.2.2.2.2.2.2.2.2.2.2.2.2.2.1.cap r.2.2.2.2.2.2.2.2.2.2.2.2.2.2.2.2.2.2.2.1.sz,.int .i64 r.2.2.2.2.2.2.2.2.2.2.2.2.2.2.2.2.2.2.2.2.1,.str r.2.2.2.2.2.2.2.2.2.2.2.2.2.2.2.2.2.2.2.2.2.1,.slice r.2.2.2.2.2.2.2.2.2.2.2.2.2.2.2.2.2.2.2.2.2.2.1.a r.2.2.2.2.2.2.2.2.2.2.2.2.2.2.2.2.2.2.2.2.2.2.1.len r.2.2.2.2.2.2.2.2.2.2.2.2.2.2.2.2.2.2.2.2.2.2.1.cap r.2.2.2.2.2.2.2.2.2.2.2.2.2.2.2.2.2.2.2.2.2.2.1.sz,.str r.2.2.2.2.2.2.2.2.2.2.2.2.2.2.2.2.2.2.2.2.2.2.2.1,.slice r.2.2.2.2.2.2.2.2.2.2.2.2.2.2.2.2.2.2.2.2.2.2.2.2.1.a r.2.2.2.2.2.2.2.2.2.2.2.2.2.2.2.2.2.2.2.2.2.2.2.2.1.len r.2.2.2.2.2.2.2.2.2.2.2.2.2.2.2.2.2.2.2.2.2.2.2.2.1.cap r.2.2.2.2.2.2.2.2.2.2.2.2.2.2.2.2.2.2.2.2.2.2.2.2.1.sz,.slice r.2.2.2.2.2.2.2.2.2.2.2.2.2.2.2.2.2.2.2.2.2.2.2.2.2.1.a r.2.2.2.2.2.2.2.2.2.2.2.2.2.2.2.2.2.2.2.2.2.2.2.2.2.1.len r.2.2.2.2.2.2.2.2.2.2.2.2.2.2.2.2.2.2.2.2.2.2.2.2.2.1.cap r.2.2.2.2.2.2.2.2.2.2.2.2.2.2.2.2.2.2.2.2.2.2.2.2.2.1.sz,.int .i64 r.2.2.2.2.2.2.2.2.2.2.2.2.2.2.2.2.2.2.2.2.2.2.2.2.2.2.1,.int .i64 r.2.2.2.2.2.2.2.2.2.2.2.2.2.2.2.2.2.2.2.2.2.2.2.2.2.2.2.1,.str r.2.2.2.2.2.2.2.2.2.2.2.2.2.2.2.2.2.2.2.2.2.2.2.2.2.2.2.2.1,.slice r.2.2.2.2.2.2.2.2.2.2.2.2.2.2.2.2.2.2.2.2.2.2.2.2.2.2.2.2.2.1.a r.2.2.2.2.2.2.2.2.2.2.2.2.2.2.2.2.2.2.2.2.2.2.2.2.2.2.2.2.2.1.len r.2.2.2.2.2.2.2.2.2.2.2.2.2.2.2.2.2.2.2.2.2.2.2.2.2.2.2.2.2.1.cap r.2.2.2.2.2.2.2.2.2.2.2.2.2.2.2.2.2.2.2.2.2.2.2.2.2.2.2.2.2.1.sz,.slice r.2.2.2.2.2.2.2.2.2.2.2.2.2.2.2.2.2.2.2.2.2.2.2.2.2.2.2.2.2.2.1.a r.2.2.2.2.2.2.2.2.2.2.2.2.2.2.2.2.2.2.2.2.2.2.2.2.2.2.2.2.2.2.1.len r.2.2.2.2.2.2.2.2.2.2.2.2.2.2.2.2.2.2.2.2.2.2.2.2.2.2.2.2.2.2.1.cap r.2.2.2.2.2.2.2.2.2.2.2.2.2.2.2.2.2.2.2.2.2.2.2.2.2.2.2.2.2.2.1.sz,.slice r.2.2.2.2.2.2.2.2.2.2.2.2.2.2.2.2.2.2.2.2.2.2.2.2.2.2.2.2.2.2.2.1.a r.2.2.2.2.2.2.2.2.2.2.2.2.2.2.2.2.2.2.2.2.2.2.2.2.2.2.2.2.2.2.2.1.len r.2.2.2.2.2.2.2.2.2.2.2.2.2.2.2.2.2.2.2.2.2.2.2.2.2.2.2.2.2.2.2.1.cap r.2.2.2.2.2.2.2.2.2.2.2.2.2.2.2.2.2.2.2.2.2.2.2.2.2.2.2.2.2.2.2.1.sz]) fun h7=>iA (.val zA) (h7.cells (A,0) 32) fun x8=>K x8 h7)=K r (H.put A (.row (smx r) .own)):=by
 have:H.store (A,0) [.int .i64 r.1,.int .i64 r.2.1,.bool r.2.2.1,.str r.2.2.2.1,.int .i64 r.2.2.2.2.1,.str r.2.2.2.2.2.1,.slice r.2.2.2.2.2.2.1.a r.2.2.2.2.2.2.1.len r.2.2.2.2.2.2.1.cap r.2.2.2.2.2.2.1.sz,.slice r.2.2.2.2.2.2.2.1.a r.2.2.2.2.2.2.2.1.len r.2.2.2.2.2.2.2.1.cap r.2.2.2.2.2.2.2.1.sz,.bool r.2.2.2.2.2.2.2.2.1,.str r.2.2.2.2.2.2.2.2.2.1,.slice r.2.2.2.2.2.2.2.2.2.2.1.a r.2.2.2.2.2.2.2.2.2.2.1.len r.2.2.2.2.2.2.2.2.2.2.1.cap r.2.2.2.2.2.2.2.2.2.2.1.sz,.int .i64 r.2.2.2.2.2.2.2.2.2.2.2.1,.int .i64 r.2.2.2.2.2.2.2.2.2.2.2.2.1,.int .i64 r.2.2.2.2.2.2.2.2.2.2.2.2.2.1,.str r.2.2.2.2.2.2.2.2.2.2.2.2.2.2.1,.slice r.2.2.2.2.2.2.2.2.2.2.2.2.2.2.2.1.a r.2.2.2.2.2.2.2.2.2.2.2.2.2.2.2.1.len r.2.2.2.2.2.2.2.2.2.2.2.2.2.2.2.1.cap r.2.2.2.2.2.2.2.2.2.2.2.2.2.2.2.1.sz,.int .i64 r.2.2.2.2.2.2.2.2.2.2.2.2.2.2.2.2.1,.int .i64 r.2.2.2.2.2.2.2.2.2.2.2.2.2.2.2.2.2.1,.str r.2.2.2.2.2.2.2.2.2.2.2.2.2.2.2.2.2.2.1,.slice r.2.2.2.2.2.2.2.2.2.2.2.2.2.2.2.2.2.2.2.1.a r.2.2.2.2.2.2.2.2.2.2.2.2.2.2.2.2.2.2.2.1.len r.2.2.2.2.2.2.2.2.2.2.2.2.2.2.2.2.2.2.2.1.cap r.2.2.2.2.2.2.2.2.2.2.2.2.2.2.2.2.2.2.2.1.sz,.int .i64 r.2.2.2.2.2.2.2.2.2.2.2.2.2.2.2.2.2.2.2.2.1,.str r.2.2.2.2.2.2.2.2.2.2.2.2.2.2.2.2.2.2.2.2.2.1,.slice r.2.2.2.2.2.2.2.2.2.2.2.2.2.2.2.2.2.2.2.2.2.2.1.a r.2.2.2.2.2.2.2.2.2.2.2.2.2.2.2.2.2.2.2.2.2.2.1.len r.2.2.2.2.2.2.2.2.2.2.2.2.2.2.2.2.2.2.2.2.2.2.1.cap r.2.2.2.2.2.2.2.2.2.2.2.2.2.2.2.2.2.2.2.2.2.2.1.sz,.str r.2.2.2.2.2.2.2.2.2.2.2.2.2.2.2.2.2.2.2.2.2.2.2.1,.slice r.2.2.2.2.2.2.2.2.2.2.2.2.2.2.2.2.2.2.2.2.2.2.2.2.1.a r.2.2.2.2.2.2.2.2.2.2.2.2.2.2.2.2.2.2.2.2.2.2.2.2.1.len r.2.2.2.2.2.2.2.2.2.2.2.2.2.2.2.2.2.2.2.2.2.2.2.2.1.cap r.2.2.2.2.2.2.2.2.2.2.2.2.2.2.2.2.2.2.2.2.2.2.2.2.1.sz,.slice r.2.2.2.2.2.2.2.2.2.2.2.2.2.2.2.2.2.2.2.2.2.2.2.2.2.1.a r.2.2.2.2.2.2.2.2.2.2.2.2.2.2.2.2.2.2.2.2.2.2.2.2.2.1.len r.2.2.2.2.2.2.2.2.2.2.2.2.2.2.2.2.2.2.2.2.2.2.2.2.2.1.cap r.2.2.2.2.2.2.2.2.2.2.2.2.2.2.2.2.2.2.2.2.2.2.2.2.2.1.sz,.int .i64 r.2.2.2.2.2.2.2.2.2.2.2.2.2.2.2.2.2.2.2.2.2.2.2.2.2.2.1,.int .i64 r.2.2.2.2.2.2.2.2.2.2.2.2.2.2.2.2.2.2.2.2.2.2.2.2.2.2.2.1,.str r.2.2.2.2.2.2.2.2.2.2.2.2.2.2.2.2.2.2.2.2.2.2.2.2.2.2.2.2.1,.slice r.2.2.2.2.2.2.2.2.2.2.2.2.2.2.2.2.2.2.2.2.2.2.2.2.2.2.2.2.2.1.a r.2.2.2.2.2.2.2.2.2.2.2.2.2.2.2.2.2.2.2.2.2.2.2.2.2.2.2.2.2.1.len r.2.2.2.2.2.2.2.2.2.2.2.2.2.2.2.2.2.2.2.2.2.2.2.2.2.2.2.2.2.1.cap r.2.2.2.2.2.2.2.2.2.2.2.2.2.2.2.2.2.2.2.2.2.2.2.2.2.2.2.2.2.1.sz,.slice r.2.2.2.2.2.2.2.2.2.2.2.2.2.2.2.2.2.2.2.2.2.2.2.2.2.2.2.2.2.2.1.a r.2.2.2.2.2.2.2.2.2.2.2.2.2.2.2.2.2.2.2.2.2.2.2.2.2.2.2.2.2.2.1.len r.2.2.2.2.2.2.2.2.2.2.2.2.2.2.2.2.2.2.2.2.2.2.2.2.2.2.2.2.2.2.1.cap r.2.2.2.2.2.2.2.2.2.2.2.2.2.2.2.2.2.2.2.2.2.2.2.2.2.2.2.2.2.2.1.sz,.slice r.2.2.2.2.2.2.2.2.2.2.2.2.2.2.2.2.2.2.2.2.2.2.2.2.2.2.2.2.2.2.2.1.a r.2.2.2.2.2.2.2.2.2.2.2.2.2.2.2.2.2.2.2.2.2.2.2.2.2.2.2.2.2.2.2.1.len r.2.2.2.2.2.2.2.2.2.2.2.2.2.2.2.2.2.2.2.2.2.2.2.2.2.2.2.2.2.2.2.1.cap r.2.2.2.2.2.2.2.2.2.2.2.2.2.2.2.2.2.2.2.2.2.2.2.2.2.2.2.2.2.2.2.1.sz]=some (H.put A (.row (smx r) .own)):=o.store rfl
 rw [this,dA,pAs (yA o _)]
section
variable {N:Nat} {T:List Tok} {P:Nat} {X:List Nat} {h:Heap} {σ:St}
theorem KE.opt {c:Nat} (hk:KE T (σ,c)) {w:Bs} (h:(jB T w σ).1=true):c≤2000:=by
 have hn:=(nH h).2;rcases hk with (hk | hk) | ⟨_,hk⟩
 ·exact hk
 ·rw [hn] at hk;cases hk
 ·obtain ⟨i,e⟩:=σ
  simp only at hn;subst hn;rw [uF hk] at h;cases h
theorem KS.le {s:SC} (h:s.2≤2000):KS s:=.inl h
theorem mB4 (hT:Toks T) (hN:100≤N) {F:zJ2→Int→Heap→Option (SL×Heap)} {G} {blk:SC→List D×SC} {deep:Nat} (hd:deep≤100) (hB:lBb N T P F blk ((deep+1:Nat):Int)) (hK:∀ s,KS s→KS (blk s).2) {c:Nat} (x:PC T P X h σ (c:Int)) (hk:KE T (σ,c)) :
  ∃ r h',rAj N F G (some (P,0)) (deep:Int) h=some (r,h')∧PC T P X h' (yI T blk (σ,c)).2.1 ((yI T blk (σ,c)).2.2:Int)∧Chg [P] h h'∧Dt h' (fun C=>h.next≤C) (yI T blk (σ,c)).1 (smx r):=by
 unfold rAj;have hP:=x.P_lt;have oR:=vA h (smc (wF 0));have cR:=qA h (.row (smc (wF 0)) .own);have eR:h.push (.row [.int .i64 0,.int .i64 0,.bool false,.str [],.int .i64 0,.str [],.slice none 0 0 0,.slice none 0 0 0,.bool false,.str [],.slice none 0 0 0,.int .i64 0,.int .i64 0,.int .i64 0,.str [],.slice none 0 0 0,.int .i64 0,.int .i64 0,.str [],.slice none 0 0 0,.int .i64 0,.str [],.slice none 0 0 0,.str [],.slice none 0 0 0,.slice none 0 0 0,.int .i64 0,.int .i64 0,.str [],.slice none 0 0 0,.slice none 0 0 0,.slice none 0 0 0] .own)=h.push (.row (smc (wF 0)) .own):=rfl;have nR:(h.push (.row (smc (wF 0)) .own)).next=h.next+1:=rfl;have x1:=x.add cR (A:=h.next) (Nat.le_refl _) (Nat.lt_succ_self _);rw [eR];generalize h.push (.row (smc (wF 0)) .own)=h1 at *;dsimp only;obtain ⟨h3,e3,c3⟩:=cN (N:=N) x1.pa;rw [e3,aA];obtain ⟨h5,e5,c5,o5⟩:=mAj h3 (tk T σ.1);rw [e5,dA];have k5:h5.cell (h3.next,0+2)=some (.int .i64 ((tk T σ.1).2.2:Int)):=o5.cell 2;rw [k5];simp only [fA,bD];have c15:=c3.trans c5;have x5:=x1.chg c15;have oR5:=oR.chg c15 (by simp);have hn5:=c15.next;simp only [yI];generalize ((tk T σ.1).2.2:Int)=at_ at *;have oO0:=vA h5 (smc (wF 0));have cO0:=qA h5 (.row (smc (wF 0)) .own);have eO:h5.push (.row [.int .i64 0,.int .i64 0,.bool false,.str [],.int .i64 0,.str [],.slice none 0 0 0,.slice none 0 0 0,.bool false,.str [],.slice none 0 0 0,.int .i64 0,.int .i64 0,.int .i64 0,.str [],.slice none 0 0 0,.int .i64 0,.int .i64 0,.str [],.slice none 0 0 0,.int .i64 0,.str [],.slice none 0 0 0,.str [],.slice none 0 0 0,.slice none 0 0 0,.int .i64 0,.int .i64 0,.str [],.slice none 0 0 0,.slice none 0 0 0,.slice none 0 0 0] .own)=h5.push (.row (smc (wF 0)) .own):=rfl;have hstO:(h5.push (.row (smc (wF 0)) .own)).store (h5.next,0) (smc (wF at_))=some ((h5.push (.row (smc (wF 0)) .own)).put h5.next (.row (smc (wF at_)) .own)):=oO0.store rfl;have hstO':(h5.push (.row (smc (wF 0)) .own)).store (h5.next,0) (.int .i64 0::.int .i64 at_::([.int .i64 0,.int .i64 0,.bool false,.str [],.int .i64 0,.str [],.slice none 0 0 0,.slice none 0 0 0,.bool false,.str [],.slice none 0 0 0,.int .i64 0,.int .i64 0,.int .i64 0,.str [],.slice none 0 0 0,.int .i64 0,.int .i64 0,.str [],.slice none 0 0 0,.int .i64 0,.str [],.slice none 0 0 0,.str [],.slice none 0 0 0,.slice none 0 0 0,.int .i64 0,.int .i64 0,.str [],.slice none 0 0 0,.slice none 0 0 0,.slice none 0 0 0]).drop 2)=some ((h5.push (.row (smc (wF 0)) .own)).put h5.next (.row (smc (wF at_)) .own)):=hstO;simp only [List.drop_succ_cons,List.drop_zero] at hstO';rw [eO,hstO',dA];have oO:=yA oO0 (smc (wF at_));have cO:Chg [] h5 ((h5.push (.row (smc (wF 0)) .own)).put h5.next (.row (smc (wF at_)) .own)):=cO0.put (.inr (Nat.le_refl _)) _;have nO:((h5.push (.row (smc (wF 0)) .own)).put h5.next (.row (smc (wF at_)) .own)).next=h5.next+1:=rfl;have x8:=x5.add cO (A:=h5.next) (Nat.le_refl _) (Nat.lt_succ_self _);have oR8:=oR5.chg cO (by simp);have c08:Chg [P] h ((h5.push (.row (smc (wF 0)) .own)).put h5.next (.row (smc (wF at_)) .own)):=((cR.mono (by simp)).trans (c15.mono (by simp))).trans (cO.mono (by simp));generalize (h5.push (.row (smc (wF 0)) .own)).put h5.next (.row (smc (wF at_)) .own)=h8 at *;have s8:SI T P X h h.next h5.next (wF at_) bK h8 σ (c:Int):=⟨x8,c08,oR8,oO,⟨Nat.le_refl _,by omega,hP⟩,gY _ _ _ _,kL _ _,kBb _ _,jI _ _,Sl.nil _ _ _,Sl.nil _ _ _⟩;have hR:h.next<h5.next:=by omega
 generalize h5.next=O at *;generalize h.next=R at *
 -- what stands at the end
 have fin:∀ {h60:Heap} {z:D×SC},eBh T P X h R O ((z.2.2:Int)) h60 (z.1,z.2.1)→∃ r h',
   (iA (.val zA) (h60.cells (O,0) 32) fun x62=>rA (h60.store (R,0) [.int .i64 x62.1,.int .i64 x62.2.1,.bool x62.2.2.1,.str x62.2.2.2.1,.int .i64 x62.2.2.2.2.1,.str x62.2.2.2.2.2.1,.slice x62.2.2.2.2.2.2.1.a x62.2.2.2.2.2.2.1.len x62.2.2.2.2.2.2.1.cap x62.2.2.2.2.2.2.1.sz,.slice x62.2.2.2.2.2.2.2.1.a x62.2.2.2.2.2.2.2.1.len x62.2.2.2.2.2.2.2.1.cap x62.2.2.2.2.2.2.2.1.sz,.bool x62.2.2.2.2.2.2.2.2.1,.str x62.2.2.2.2.2.2.2.2.2.1,.slice x62.2.2.2.2.2.2.2.2.2.2.1.a x62.2.2.2.2.2.2.2.2.2.2.1.len x62.2.2.2.2.2.2.2.2.2.2.1.cap x62.2.2.2.2.2.2.2.2.2.2.1.sz,.int .i64 x62.2.2.2.2.2.2.2.2.2.2.2.1,.int .i64 x62.2.2.2.2.2.2.2.2.2.2.2.2.1,.int .i64 x62.2.2.2.2.2.2.2.2.2.2.2.2.2.1,.str x62.2.2.2.2.2.2.2.2.2.2.2.2.2.2.1,.slice x62.2.2.2.2.2.2.2.2.2.2.2.2.2.2.2.1.a x62.2.2.2.2.2.2.2.2.2.2.2.2.2.2.2.1.len x62.2.2.2.2.2.2.2.2.2.2.2.2.2.2.2.1.cap x62.2.2.2.2.2.2.2.2.2.2.2.2.2.2.2.1.sz,.int .i64 x62.2.2.2.2.2.2.2.2.2.2.2.2.2.2.2.2.1,.int .i64 x62.2.2.2.2.2.2.2.2.2.2.2.2.2.2.2.2.2.1,.str x62.2.2.2.2.2.2.2.2.2.2.2.2.2.2.2.2.2.2.1,.slice x62.2.2.2.2.2.2.2.2.2.2.2.2.2.2.2.2.2.2.2.1.a x62.2.2.2.2.2.2.2.2.2.2.2.2.2.2.2.2.2.2.2.1.len x62.2.2.2.2.2.2.2.2.2.2.2.2.2.2.2.2.2.2.2.1.cap x62.2.2.2.2.2.2.2.2.2.2.2.2.2.2.2.2.2.2.2.1.sz,.int .i64 x62.2.2.2.2.2.2.2.2.2.2.2.2.2.2.2.2.2.2.2.2.1,.str x62.2.2.2.2.2.2.2.2.2.2.2.2.2.2.2.2.2.2.2.2.2.1,.slice x62.2.2.2.2.2.2.2.2.2.2.2.2.2.2.2.2.2.2.2.2.2.2.1.a x62.2.2.2.2.2.2.2.2.2.2.2.2.2.2.2.2.2.2.2.2.2.2.1.len x62.2.2.2.2.2.2.2.2.2.2.2.2.2.2.2.2.2.2.2.2.2.2.1.cap x62.2.2.2.2.2.2.2.2.2.2.2.2.2.2.2.2.2.2.2.2.2.2.1.sz,.str x62.2.2.2.2.2.2.2.2.2.2.2.2.2.2.2.2.2.2.2.2.2.2.2.1,.slice x62.2.2.2.2.2.2.2.2.2.2.2.2.2.2.2.2.2.2.2.2.2.2.2.2.1.a x62.2.2.2.2.2.2.2.2.2.2.2.2.2.2.2.2.2.2.2.2.2.2.2.2.1.len x62.2.2.2.2.2.2.2.2.2.2.2.2.2.2.2.2.2.2.2.2.2.2.2.2.1.cap x62.2.2.2.2.2.2.2.2.2.2.2.2.2.2.2.2.2.2.2.2.2.2.2.2.1.sz,.slice x62.2.2.2.2.2.2.2.2.2.2.2.2.2.2.2.2.2.2.2.2.2.2.2.2.2.1.a x62.2.2.2.2.2.2.2.2.2.2.2.2.2.2.2.2.2.2.2.2.2.2.2.2.2.1.len x62.2.2.2.2.2.2.2.2.2.2.2.2.2.2.2.2.2.2.2.2.2.2.2.2.2.1.cap x62.2.2.2.2.2.2.2.2.2.2.2.2.2.2.2.2.2.2.2.2.2.2.2.2.2.1.sz,.int .i64 x62.2.2.2.2.2.2.2.2.2.2.2.2.2.2.2.2.2.2.2.2.2.2.2.2.2.2.1,.int .i64 x62.2.2.2.2.2.2.2.2.2.2.2.2.2.2.2.2.2.2.2.2.2.2.2.2.2.2.2.1,.str x62.2.2.2.2.2.2.2.2.2.2.2.2.2.2.2.2.2.2.2.2.2.2.2.2.2.2.2.2.1,.slice x62.2.2.2.2.2.2.2.2.2.2.2.2.2.2.2.2.2.2.2.2.2.2.2.2.2.2.2.2.2.1.a x62.2.2.2.2.2.2.2.2.2.2.2.2.2.2.2.2.2.2.2.2.2.2.2.2.2.2.2.2.2.1.len x62.2.2.2.2.2.2.2.2.2.2.2.2.2.2.2.2.2.2.2.2.2.2.2.2.2.2.2.2.2.1.cap x62.2.2.2.2.2.2.2.2.2.2.2.2.2.2.2.2.2.2.2.2.2.2.2.2.2.2.2.2.2.1.sz,.slice x62.2.2.2.2.2.2.2.2.2.2.2.2.2.2.2.2.2.2.2.2.2.2.2.2.2.2.2.2.2.2.1.a x62.2.2.2.2.2.2.2.2.2.2.2.2.2.2.2.2.2.2.2.2.2.2.2.2.2.2.2.2.2.2.1.len x62.2.2.2.2.2.2.2.2.2.2.2.2.2.2.2.2.2.2.2.2.2.2.2.2.2.2.2.2.2.2.1.cap x62.2.2.2.2.2.2.2.2.2.2.2.2.2.2.2.2.2.2.2.2.2.2.2.2.2.2.2.2.2.2.1.sz,.slice x62.2.2.2.2.2.2.2.2.2.2.2.2.2.2.2.2.2.2.2.2.2.2.2.2.2.2.2.2.2.2.2.1.a x62.2.2.2.2.2.2.2.2.2.2.2.2.2.2.2.2.2.2.2.2.2.2.2.2.2.2.2.2.2.2.2.1.len x62.2.2.2.2.2.2.2.2.2.2.2.2.2.2.2.2.2.2.2.2.2.2.2.2.2.2.2.2.2.2.2.1.cap x62.2.2.2.2.2.2.2.2.2.2.2.2.2.2.2.2.2.2.2.2.2.2.2.2.2.2.2.2.2.2.2.1.sz]) fun h63=>iA (.val zA) (h63.cells (R,0) 32) fun x66=>some (x66,h63))=some (r,h')∧PC T P X h' z.2.1 (z.2.2:Int)∧Chg [P] h h'∧Dt h' (fun C=>R≤C) z.1 (smx r):=by
  rintro h60 z ⟨r,d,s,e⟩;have hle:=s.le;refine ⟨smv r,h60.put R (.row (smx (smv r)) .own),?_,?_,?_,?_⟩
  ·rw [pAs (r:=smv r) s.oO]
   exact rBj s.oR (smv r) (fun x h=>some (x,h))
  ·exact (s.pc.chg1 (s.oR.put _) (by simp)).sub (by simp +contextual)
  ·exact s.chg.step (s.oR.put _) (fun A hA hl=>by rw [List.mem_singleton] at hA;omega)
  ·show Dt _ _ z.1 _
   rw [show z.1=smD r d from e];exact (s.dt.chg (s.oR.put _) (fun C hC=>by simp;omega)).weak fun C hC _=>by omega
 obtain ⟨h10,e10,c10,y10⟩:=iI (N:=N) hT s8.pc (w:=[108,101,116]) (by decide);rw [e10,aA];have s10:=s8.step c10 y10
 cases hb1:(jB T [108,101,116] σ).1 with
 | true=>
  simp only [cond_true,if_true];obtain ⟨h12,e12,sm⟩:=kB4 (N:=N) hT hN s10;rw [e12,aA];simp only [aA,dA];exact fin (z:=((lAg T at_ (jB T [108,101,116] σ).2).1,((lAg T at_ (jB T [108,101,116] σ).2).2,c))) sm
 | false=>
 rw [rD hb1] at s10 ⊢;simp only [cond_false,Bool.false_eq_true,if_false];obtain ⟨h14,e14,c14,y14⟩:=iI (N:=N) hT s10.pc (w:=[105,102]) (by decide);rw [e14,aA];have s14:=s10.step c14 y14
 cases hb2:(jB T [105,102] σ).1 with
 | true=>
  have hc:=hk.opt hb2;simp only [cond_true,if_true];obtain ⟨co,h16,e16,y16,c16,d16⟩:=pS (N:=N) hT hN s14.pc;rw [e16,aA];have s16:=s14.step c16 y16;have hlt:=s14.lt;generalize (kE T (jB T [105,102] σ).2)=o at *;simp only [Nat.zero_add];obtain ⟨h17,e17,s17,c17⟩:=s16.setK 4;rw [e17,dA];obtain ⟨h18,e18,s18,c18⟩:=s17.setC co ((d16.weak (W:=fun C=>O<C) fun C hC _=>by omega).chg c17 (fun C hC=>by simp;omega));rw [e18,dA,dC (by omega)];obtain ⟨v,h21,e21,y21,c21,d21⟩:=hB _ h18 _ c s18.pc (KS.le hc);rw [e21,aA];have s21:=s18.step c21 y21;have hlt2:=s18.lt;have hk2:=hK (o.2,c) (KS.le hc);generalize blk (o.2,c)=t at *;obtain ⟨h22,e22,s22,c22⟩:=s21.setTh v (d21.weak fun C hC _=>by omega);rw [e22,dA];obtain ⟨h24,e24,c24,y24⟩:=iI (N:=N) hT s22.pc (w:=[101,108,115,101]) (by decide);rw [e24,aA];have s24:=s22.step c24 y24;obtain ⟨h25,e25,s25,c25⟩:=s24.setH (jB T [101,108,115,101] t.2.1).1;rw [e25,dA];have r25:h25.cell (O,8)=some (.bool (jB T [101,108,115,101] t.2.1).1):=s25.oO.cell 8;simp only [r25,fA,rB]
  cases hb3:(jB T [101,108,115,101] t.2.1).1 with
  | true=>
   rw [hb3] at s25;simp only [cond_true,if_true];have hk3:KS ((jB T [101,108,115,101] t.2.1).2,t.2.2):=KS.err (σ:=t.2.1) hk2 (fun i e h=>by rw [h];rfl);obtain ⟨v2,h29,e29,y29,c29,d29⟩:=hB _ h25 _ t.2.2 s25.pc hk3;rw [e29,aA];have s29:=s25.step c29 y29;have hlt3:=s25.lt;obtain ⟨h30,e30,s30,c30⟩:=s29.setEl v2 (d29.weak fun C hC _=>by omega);rw [e30,dA];simp only [aA,dA];exact fin (z:=(smD { wF at_ with k:=4,has:=true } { bK with co:=o.1,th:=t.1,el:=(blk ((jB T [101,108,115,101] t.2.1).2,t.2.2)).1 },(blk ((jB T [101,108,115,101] t.2.1).2,t.2.2)).2)) ⟨_,_,s30,rK ⟨rfl,rfl,rfl,rfl,rfl⟩⟩
  | false=>
   rw [hb3] at s25;simp only [cond_false,Bool.false_eq_true,if_false];simp only [aA,dA];exact fin (z:=(smD { wF at_ with k:=4 } { bK with co:=o.1,th:=t.1 },((jB T [101,108,115,101] t.2.1).2,t.2.2))) ⟨_,_,s25,rK ⟨rfl,rfl,rfl,rfl,rfl⟩⟩
 | false=>
 rw [rD hb2] at s14 ⊢;simp only [cond_false,Bool.false_eq_true,if_false];obtain ⟨h32,e32,c32,y32⟩:=iI (N:=N) hT s14.pc (w:=[119,104,105,108,101]) (by decide);rw [e32,aA];have s32:=s14.step c32 y32
 cases hb3:(jB T [119,104,105,108,101] σ).1 with
 | true=>
  have hc:=hk.opt hb3;simp only [cond_true,if_true];obtain ⟨co,h34,e34,y34,c34,d34⟩:=pS (N:=N) hT hN s32.pc;rw [e34,aA];have s34:=s32.step c34 y34;have hlt:=s32.lt;generalize (kE T (jB T [119,104,105,108,101] σ).2)=o at *;simp only [Nat.zero_add];obtain ⟨h35,e35,s35,c35⟩:=s34.setK 5;rw [e35,dA];obtain ⟨h36,e36,s36,c36⟩:=s35.setC co ((d34.weak (W:=fun C=>O<C) fun C hC _=>by omega).chg c35 (fun C hC=>by simp;omega));rw [e36,dA,dC (by omega)];obtain ⟨v,h39,e39,y39,c39,d39⟩:=hB _ h36 _ c s36.pc (KS.le hc);rw [e39,aA];have s39:=s36.step c39 y39;have hlt2:=s36.lt;obtain ⟨h40,e40,s40,c40⟩:=s39.setTh v (d39.weak fun C hC _=>by omega);rw [e40,dA];simp only [aA,dA];exact fin (z:=(smD { wF at_ with k:=5 } { bK with co:=o.1,th:=(blk (o.2,c)).1 },(blk (o.2,c)).2)) ⟨_,_,s40,rK ⟨rfl,rfl,rfl,rfl,rfl⟩⟩
 | false=>
 rw [rD hb3] at s32 ⊢;simp only [cond_false,Bool.false_eq_true,if_false];obtain ⟨h42,e42,c42,y42⟩:=iI (N:=N) hT s32.pc (w:=[108,111,111,112]) (by decide);rw [e42,aA];have s42:=s32.step c42 y42
 cases hb4:(jB T [108,111,111,112] σ).1 with
 | true=>
  have hc:=hk.opt hb4;simp only [cond_true,if_true,Nat.zero_add];rw [dC (by omega)];obtain ⟨v,h45,e45,y45,c45,d45⟩:=hB _ h42 _ c s42.pc (KS.le hc);rw [e45,aA];have s45:=s42.step c45 y45;have hlt2:=s42.lt;obtain ⟨h46,e46,s46,c46⟩:=s45.setK 6;rw [e46,dA];obtain ⟨h47,e47,s47,c47⟩:=s46.setTh v ((d45.weak (W:=fun C=>O<C) fun C hC _=>by omega).chg c46 (fun C hC=>by simp;omega));rw [e47,dA];simp only [aA,dA];exact fin (z:=(smD { wF at_ with k:=6 } { bK with th:=(blk ((jB T [108,111,111,112] σ).2,c)).1 },(blk ((jB T [108,111,111,112] σ).2,c)).2)) ⟨_,_,s47,rK ⟨rfl,rfl,rfl,rfl,rfl⟩⟩
 | false=>
 rw [rD hb4] at s42 ⊢;simp only [cond_false,Bool.false_eq_true,if_false];obtain ⟨h49,e49,c49⟩:=jAg (N:=N) hT s42.pc (w:=[123]) (by decide);rw [e49,aA];have s49:=s42.step0 c49
 cases hb5:(jB T [123] σ).1 with
 | true=>
  have hc:=hk.opt hb5;simp only [cond_true,if_true,Nat.zero_add];rw [dC (by omega)];obtain ⟨v,h45,e45,y45,c45,d45⟩:=hB _ h49 _ c s49.pc (KS.le hc);rw [e45,aA];have s45:=s49.step c45 y45;have hlt2:=s49.lt;obtain ⟨h46,e46,s46,c46⟩:=s45.setK 7;rw [e46,dA];obtain ⟨h47,e47,s47,c47⟩:=s46.setTh v ((d45.weak (W:=fun C=>O<C) fun C hC _=>by omega).chg c46 (fun C hC=>by simp;omega));rw [e47,dA];simp only [aA,dA];exact fin (z:=(smD { wF at_ with k:=7 } { bK with th:=(blk (σ,c)).1 },(blk (σ,c)).2)) ⟨_,_,s47,rK ⟨rfl,rfl,rfl,rfl,rfl⟩⟩
 | false=>
  simp only [cond_false,Bool.false_eq_true,if_false];obtain ⟨h56,e56,r,d,s56,hs⟩:=lB4 (N:=N) hT hN s49;rw [e56,aA];obtain ⟨h58,e58,c58,y58⟩:=gG (N:=N) hT s56.pc (w:=[59]) (by decide);rw [e58,aA];simp only [aA,dA];exact fin (z:=((dG T at_ σ).1,(uC T [59] (dG T at_ σ).2,c))) ⟨r,d,s56.step c58 y58,hs⟩
end
end Qp
namespace Qp
def oD (T:List Tok) (one:SC→D×SC):Nat→SC→(List D×Bool)×SC
 | 0,s=>(([],false),s)
 | f+1,s=>
  if s.1.2.isSome=true then (([],false),s) else
  let b:=jB T [125] s.1
  if b.1=true then (([],false),(b.2,s.2)) else
  if s.2=2000∧(tk T s.1.1).1≠0 then (([],true),(jE T 5 s.1,s.2)) else
  let x:=one (s.1,s.2+1)
  ((x.1::(oD T one f x.2).1.1,(oD T one f x.2).1.2),(oD T one f x.2).2)
def yC (T:List Tok):Nat→SC→List D×SC
 | 0,s=>([],(jE T 6 s.1,s.2))
 | g+1,s=>
  let r:=oD T (yI T (yC T g)) 2001 (uC T [123] s.1,s.2)
  (if r.1.2=true then [] else r.1.1,r.2)
section
variable {T:List Tok}
theorem wAm {i:Nat} (h:(tk T i).1=0) (a:Int):(dG T a (i,none)).2.2.isSome=true:=by
 have hc:qD T (i,none)=false:=by simp [qD,mC,h]
 have ht:pB T 1 (i,none)=([],(i,some (21,((tk T i).2.2:Int)))):=by simp [pB,jE,h]
 simp only [dG,uF h,Bool.false_eq_true,if_false,hc,uE,ht,uA2,cF,gQ,Option.isSome_some]
theorem yAm {σ τ:St} (h:σ.2.isSome=true) (hs:∀ i e,σ=(i,some e)→τ=(i,some e)):τ.2.isSome=true:=by
 obtain ⟨i,e,rfl⟩:=iQ h;rw [hs i e rfl];rfl
theorem nAg {blk:SC→List D×SC} (hK:∀ s,KS s→KS (blk s).2∧s.2≤(blk s).2.2) {σ:St} {c:Nat} (hk:KE T (σ,c)):KS (yI T blk (σ,c)).2∧c≤(yI T blk (σ,c)).2.2:=by
 simp only [yI]
 cases hb1:(jB T [108,101,116] σ).1 with
 | true=>
  simp only [if_true];exact ⟨.inl (hk.opt hb1),Nat.le_refl _⟩
 | false=>
 rw [rD hb1];simp only [Bool.false_eq_true,if_false]
 cases hb2:(jB T [105,102] σ).1 with
 | true=>
  have hc:=hk.opt hb2;simp only [if_true];have k1:=hK ((kE T (jB T [105,102] σ).2).2,c) (.inl hc);generalize blk ((kE T (jB T [105,102] σ).2).2,c)=t at *
  cases hb3:(jB T [101,108,115,101] t.2.1).1 with
  | true=>
   simp only [if_true];have k2:=hK ((jB T [101,108,115,101] t.2.1).2,t.2.2) (KS.err (σ:=t.2.1) k1.1 (fun i e h=>by rw [h,eG]));exact ⟨k2.1,Nat.le_trans k1.2 k2.2⟩
  | false=>
   simp only [Bool.false_eq_true,if_false];exact ⟨KS.err (σ:=t.2.1) k1.1 (fun i e h=>by rw [h,eG]),k1.2⟩
 | false=>
 rw [rD hb2];simp only [Bool.false_eq_true,if_false]
 cases hb3:(jB T [119,104,105,108,101] σ).1 with
 | true=>
  simp only [if_true];exact hK _ (.inl (hk.opt hb3))
 | false=>
 rw [rD hb3];simp only [Bool.false_eq_true,if_false]
 cases hb4:(jB T [108,111,111,112] σ).1 with
 | true=>
  simp only [if_true];exact hK _ (.inl (hk.opt hb4))
 | false=>
 rw [rD hb4];simp only [Bool.false_eq_true,if_false]
 cases hb5:(jB T [123] σ).1 with
 | true=>
  simp only [if_true];exact hK _ (.inl (hk.opt hb5))
 | false=>
  simp only [Bool.false_eq_true,if_false];refine ⟨?_,Nat.le_refl _⟩;rcases hk with (hk | hk) | ⟨hk,he⟩
  ·exact .inl hk
  ·obtain ⟨i,e,rfl⟩:=iQ hk
   refine .inr ?_;show (uC T [59] (dG T _ (i,some e)).2).2.isSome=true;rw [oA6,cF];rfl
  ·obtain ⟨i,e⟩:=σ
   refine .inr ?_;show (uC T [59] (dG T _ (i,e)).2).2.isSome=true
   have:(dG T ((tk T i).2.2:Int) (i,e)).2.2.isSome=true:=by
    cases e with
    | some e=>rw [oA6];rfl
    | none=>exact wAm he _
   exact yAm this (fun j f h=>by
    show uC T [59] (dG T ((tk T i).2.2:Int) (i,e)).2=_;rw [h,cF])
theorem aAk {one:SC→D×SC} (hO:∀ s,KE T s→KS (one s).2∧s.2≤(one s).2.2):∀ (f:Nat) (s:SC),KS s→KS (oD T one f s).2∧s.2≤(oD T one f s).2.2
 | 0,s,hk=>⟨hk,Nat.le_refl _⟩
 | f+1,(σ,c),hk=>by
  simp only [oD]
  cases hn:σ.2.isSome with
  | true=>simp only [if_true];exact ⟨hk,Nat.le_refl _⟩
  | false=>
  simp only [Bool.false_eq_true,if_false];have hc:c≤2000:=by
   rcases hk with hk | hk
   ·exact hk
   ·rw [hn] at hk;cases hk
  cases hb:(jB T [125] σ).1 with
  | true=>simp only [if_true];exact ⟨.inl hc,Nat.le_refl _⟩
  | false=>
  simp only [Bool.false_eq_true,if_false]
  by_cases q:c=2000∧(tk T σ.1).1≠0
  ·rw [if_pos q];exact ⟨.inl hc,Nat.le_refl _⟩
  ·rw [if_neg q]
   have h1:=hO (σ,c+1) (by
    by_cases q1:c=2000
    ·refine .inr ⟨by show c+1≤2001;omega,?_⟩
     by_cases q2:(tk T σ.1).1=0
     ·exact q2
     ·exact absurd ⟨q1,q2⟩ q
    ·exact .inl (.inl (by show c+1≤2000;omega)))
   have h2:=aAk hO f (one (σ,c+1)).2 h1.1;exact ⟨h2.1,Nat.le_trans (Nat.le_of_succ_le h1.2) h2.2⟩
theorem yZ:∀ (g:Nat) (s:SC),KS s→KS (yC T g s).2∧s.2≤(yC T g s).2.2
 | 0,(σ,c),hk=>⟨KS.err hk (fun i e h=>by
   show jE T 6 σ=_;rw [h,uAc]),Nat.le_refl _⟩
 | g+1,(σ,c),hk=>by
  simp only [yC]
  have:=aAk (T:=T) (one:=yI T (yC T g)) (fun s hs=>nAg (yZ g) (σ:=s.1) (c:=s.2) hs) 2001 (uC T [123] σ,c) (KS.err hk (fun i e h=>by rw [h,cF]))
  exact this
end
theorem mBb:AppN E 42 106 32 10000:=AppN.of (by kernel_rfl)
section
variable {N:Nat} {T:List Tok} {P:Nat} {X:List Nat} {h:Heap} {σ:St} {st:Int}
theorem PC.setSt (x:PC T P X h σ st) (st':Int):∃ h',h.store (P,2) [.int .i64 st']=some h'∧Chg [P] h h'∧PC T P X h' σ st':=by
 obtain ⟨⟨⟨s,v,h1,h2,h3,h4⟩,h5,h6⟩,hp,p4⟩:=x;have c:=h1.put [SL.av s,.int .i64 (σ.1:Int),.int .i64 st',v];have hl:=h1.2;refine ⟨_,h1.store1 (j:=2) (by show 2<4;omega) _,c,⟨⟨s,v,yA h1 _,h2.chg c (fun A hA=>by simp;omega),h3,h4.chg c (fun A hA=>.inl (by simpa using hA))⟩,h5,fun A hA=>h6 A hA⟩,vJ c (by simp;omega) (by omega) hp,p4⟩
theorem PC.readSt (x:PC T P X h σ st):h.cell (P,2)=some (.int .i64 st):=by
 obtain ⟨⟨⟨s,v,h1,_⟩,_⟩,_⟩:=x;exact h1.cell 2
def nBb (T:List Tok) (P:Nat) (G:zJ2→Int→Heap→Option (SmV×Heap)) (one:SC→D×SC) (deep:Int):Prop:=∀ (X:List Nat) (h:Heap) (σ:St) (c:Nat),PC T P X h σ (c:Int)→KE T (σ,c)→∃ r h',G (some (P,0)) deep h=some (r,h')∧PC T P X h' (one (σ,c)).2.1 ((one (σ,c)).2.2:Int)∧Chg [P] h h'∧Dt h' (fun C=>h.next≤C) (one (σ,c)).1 (smx r)
theorem aAn (hT:Toks T) {F} {G:zJ2→Int→Heap→Option (SmV×Heap)} {one:SC→D×SC} {deep:Int} (hG:nBb T P G one deep) (hO:∀ s,KE T s→KS (one s).2∧s.2≤(one s).2.2) {h0:Heap} {v4:SL} (hP0:P<h0.next):∀ (f M:Nat) (h:Heap) (σ:St) (c:Nat) (v:SL) (xs:List D),f<M→2001≤c+f→xs.length≤c→KS (σ,c)→PC T P X h σ (c:Int)→Chg [P] h0 h→Ow h0.next h v 32 xs→
  ∃ o r h',pA2 N F G M (some (P,0)) deep ⟨none,0,0,0⟩ v h=some (o,r,h')∧PC T P X h' (oD T one f (σ,c)).2.1 ((oD T one f (σ,c)).2.2:Int)∧Chg [P] h0 h'∧
   (((oD T one f (σ,c)).1.2=false∧o=.exit 0∧Ow h0.next h' r.2.1 32 (xs++(oD T one f (σ,c)).1.1))∨((oD T one f (σ,c)).1.2=true∧o=.ret∧r.1=⟨none,0,0,0⟩)):=by
 intro f
 induction f with
 | zero=>
  intro M h σ c v xs hM hc hx hk x ch w;obtain ⟨M,rfl⟩:∃ m,M=m+1:=⟨M-1,by omega⟩;rw [mO];unfold lO;obtain ⟨e,k3,hv⟩:=x.pa.readE;have hs:σ.2.isSome=true:=by
   rcases hk with hk | hk
   ·have hk:c≤2000:=hk;omega
   ·exact hk
  have hs':σ.2.isNone=false:=by cases hh:σ.2 <;> simp_all
  simp only [dA,Nat.zero_add,k3,fA,bE,hv.eq 15,rB,hs',cond_false,oD];exact ⟨_,_,h,rfl,x,ch,.inl ⟨trivial,rfl,by rw [List.append_nil];exact w⟩⟩
 | succ f ih=>
  intro M h σ c v xs hM hc hx hk x ch w;obtain ⟨M,rfl⟩:∃ m,M=m+1:=⟨M-1,by omega⟩;rw [mO];unfold lO;obtain ⟨e,k3,hv⟩:=x.pa.readE;simp only [dA,Nat.zero_add,k3,fA,bE,hv.eq 15,rB,oD]
  cases hn:σ.2 with
  | some q=>
   simp only [Option.isNone_some,cond_false,Option.isSome_some,if_true];exact ⟨_,_,h,rfl,x,ch,.inl ⟨trivial,rfl,by rw [List.append_nil];exact w⟩⟩
  | none=>
  simp only [Option.isNone_none,cond_true,Option.isSome_none,Bool.false_eq_true,if_false];have hc2:c≤2000:=by
   rcases hk with hk | hk
   ·exact hk
   ·simp [hn] at hk
  obtain ⟨h12,e12,c12,x12⟩:=qI (N:=N) hT x (w:=[125]) (by decide);rw [e12,aA];have w12:=w.chg c12 (by intro A hA;rw [List.mem_singleton] at hA;omega);have ch12:=ch.trans c12
  cases hb:(jB T [125] σ).1 with
  | true=>
   simp only [Bool.not_true,cond_false,if_true];exact ⟨_,_,h12,rfl,x12,ch12,.inl ⟨trivial,rfl,by rw [List.append_nil];exact w12⟩⟩
  | false=>
  rw [rD hb] at x12;simp only [Bool.not_false,cond_true,Bool.false_eq_true,if_false,x12.readSt,fA,bD,eqI]
  -- is it too long?
  have hlong:∃ h21,(bif decide ((c:Int)=2000) then
    (lA (f56 N (some (P,0)) h12) fun (x17:zP) h18=>
    let x19:Bool:=!decide (x17.1=0)
    some ((some (P,0),deep,(⟨none,0,0,0⟩:SL),v,x19,()),h18))
    else
    some ((some (P,0),deep,(⟨none,0,0,0⟩:SL),v,false,()),h12))=some ((some (P,0),deep,(⟨none,0,0,0⟩:SL),v,decide (c=2000∧(tk T σ.1).1≠0),()),h21)∧Chg [] h12 h21:=by
   by_cases q:c=2000
   ·obtain ⟨h18,e18,c18⟩:=cN (N:=N) x12.pa
    have q':((c:Int)=2000):=by omega
    simp only [q',decide_true,cond_true];rw [e18,aA];refine ⟨h18,?_,c18⟩;simp only [kAj,q,true_and]
    by_cases q2:(tk T σ.1).1=0
    ·simp [q2]
    ·simp [q2]
   ·have q':¬ ((c:Int)=2000):=by omega
    simp only [q',decide_false,cond_false,q,false_and];exact ⟨h12,rfl,Chg.refl _ _⟩
  obtain ⟨h21,e21,c21⟩:=hlong;rw [e21,aA];have x21:=x12.chg c21;have w21:=w12.chg c21 (by simp);have ch21:=ch12.trans (c21.mono (N:=[P]) (by simp))
  by_cases q:c=2000∧(tk T σ.1).1≠0
  ·simp only [q,decide_true,cond_true,if_true,ne_eq,not_false_eq_true,and_self]
   obtain ⟨h23,e23,c23,x23⟩:=uAj (N:=N) x21 (c:=5) (by decide);rw [e23,aA];have q1:=q.1;subst q1;exact ⟨_,_,h23,rfl,x23,ch21.trans c23,.inr ⟨trivial,rfl,rfl⟩⟩
  ·rw [if_neg q]
   simp only [q,decide_false,cond_false,dA,Nat.zero_add,x21.readSt,fA,bD];rw [dC (by omega)];obtain ⟨h28,e28,c28,x28⟩:=x21.setSt ((c+1:Nat):Int);rw [e28,dA];have w28:=w21.chg c28 (by intro A hA;rw [List.mem_singleton] at hA;omega);have ch28:=ch21.trans c28;have hge:∀ A∈v.blk.toList,h0.next≤A∧A<h28.next:=fun A hA=>w28.ge A (by simpa using hA);obtain ⟨i,er⟩:=σ;simp only at hn;subst hn;have hke:KE T ((i,none),c+1):=by
    by_cases q1:c=2000
    ·refine .inr ⟨by show c+1≤2001;omega,?_⟩
     by_cases q2:(tk T i).1=0
     ·exact q2
     ·exact absurd ⟨q1,q2⟩ q
    ·exact .inl (.inl (by show c+1≤2000;omega))
   obtain ⟨r,h30,e30,x30,c30,d30⟩:=hG (v.blk.toList++X) h28 (i,none) (c+1) (x28.free fun A hA=>by
    rcases List.mem_append.1 hA with hA | hA
    ·have:=hge A hA;omega
    ·exact x28.pa.xl A hA) hke
   rw [e30,aA];have hk1:=hO ((i,none),c+1) hke;have w30:=w28.chg c30 (by intro A hA;rw [List.mem_singleton] at hA;omega);have ch30:=ch28.trans c30;have hn28:=ch28.next;obtain ⟨v',h33,eK,w33,c33,hb33⟩:=bAs mBb (by decide) ch30 w30 (d30.weak (W:=fun C=>h0.next≤C∧v.blk≠some C) fun C hC _=>⟨by omega,fun e=>by have:=hge C (by simpa using e);omega⟩) rfl (by
    have:(xs.length+1) * 10000≤2001 * 10000:=Nat.mul_le_mul_right _ (by omega)
    omega)
   have x33:=(x30.chgM c33 (fun A hA=>List.mem_append_left _ hA)).sub (X':=X) (fun A hA=>List.mem_append_right _ hA);have ch33:=ch30.step c33 (fun A hA hl=>by have:=hge A hA;omega);generalize one ((i,none),c+1)=z at *
   have:=ih M h33 z.2.1 z.2.2 v' (xs++[z.1]) (by omega) (by have:c+1≤z.2.2:=hk1.2;omega) (by simp;have:c+1≤z.2.2:=hk1.2;omega) hk1.1 x33 ch33 w33
   rw [List.append_assoc] at this;obtain ⟨o,rr,h',e',x',c',hres⟩:=this;exact ⟨o,rr,h',(eK _).trans e',x',c',hres⟩
end
end Qp
namespace Qp
theorem pO (T:List Tok) (k:Int) (σ:St):(jE T k σ).2.isSome=true:=by
 obtain ⟨i,e⟩:=σ;cases e <;> rfl
theorem fAx {T:List Tok} {w:Bs} {σ:St} (h:σ.2.isSome=true):uC T w σ=σ:=by
 obtain ⟨i,e,rfl⟩:=iQ h;exact cF T i e w
section
variable {N:Nat} {T:List Tok} {P:Nat} {X:List Nat} {h:Heap} {σ:St} {st:Int}
theorem gAx (hT:Toks T) (hN:3000≤N):∀ (g M:Nat),g≤64→2 * g+1≤M→lBb N T P (f158 N M) (yC T g) ((65-g:Nat):Int):=by
 intro g
 induction g with
 | zero=>
  intro M hg hM X h σ c x hk;obtain ⟨M,rfl⟩:∃ m,M=m+1:=⟨M-1,by omega⟩;rw [rAc];unfold qAj;simp only [show wB 64 ((65-0:Nat):Int)=true from rfl,cond_true];obtain ⟨h3,e3,c3,x3⟩:=uAj (N:=N) x (c:=6) (by decide);rw [e3,aA,aA];dsimp only;obtain ⟨h7,e7,c7,x7⟩:=gG (N:=N) hT x3 (w:=[123]) (by decide);rw [e7,aA];have hs:=pO T 6 σ;rw [fAx hs] at x7;obtain ⟨n,hn⟩:∃ n,N=n+1:=⟨N-1,by omega⟩;have hl:∀ (F G) (M:Nat),pA2 N F G (M+1) (some (P,0)) ((65-0:Nat):Int) ⟨none,0,0,0⟩ ⟨none,0,0,0⟩ h7=some (.exit 0,(⟨none,0,0,0⟩,⟨none,0,0,0⟩,()),h7):=by
   intro F G M;rw [mO];unfold lO;obtain ⟨e,k3,hv⟩:=x7.pa.readE;have hs':(jE T 6 σ).2.isNone=false:=by cases hh:(jE T 6 σ).2 <;> simp_all
   simp only [dA,Nat.zero_add,k3,fA,bE,hv.eq 15,rB,hs',cond_false]
  have hl':=hl (f158 N M) (f190 N M) n;rw [← hn] at hl';rw [hl'];simp only [uB];exact ⟨sl0,h7,rfl,x7,c3.trans c7,Sl.nil _ _ _⟩
 | succ g ih=>
  intro M hg hM X h σ c x hk;obtain ⟨M,rfl⟩:∃ m,M=m+2:=⟨M-2,by omega⟩;rw [rAc];unfold qAj;have hlt:wB 64 ((65-(g+1):Nat):Int)=false:=by rw [ltI];exact decide_eq_false (by omega)
  simp only [hlt,cond_false,aA];obtain ⟨h7,e7,c7,x7⟩:=gG (N:=N) hT x (w:=[123]) (by decide);rw [e7,aA];have hB:=ih M (by omega) (by omega);have hd:65-g=(65-(g+1))+1:=by omega
  rw [hd] at hB;have hone:nBb T P (f190 N (M+1)) (yI T (yC T g)) ((65-(g+1):Nat):Int):=by
   intro X h σ c x hk;rw [yAr];exact mB4 hT (by omega) (by omega) hB (fun s hs=>(yZ g s hs).1) x hk
  have hk7:KS (uC T [123] σ,c):=hk.err (fun i e h=>by rw [h,cF]);obtain ⟨o,r,h',e',x',c',hres⟩:=aAn (N:=N) hT (F:=f158 N (M+1)) hone (fun s hs=>nAg (yZ g) (σ:=s.1) (c:=s.2) hs) (h0:=h7) (v4:=sl0) x7.P_lt 2001 N h7 _ c sl0 [] (by omega) (by omega) (by simp) hk7 x7 (Chg.refl _ _) (Ow.nil _ _ _ _);rw [e'];simp only [uB,yC];have hn7:=c7.next;rcases hres with ⟨e1,rfl,w⟩ | ⟨e1,rfl,e2⟩
  ·rw [e1]
   rw [List.nil_append] at w;exact ⟨_,h',rfl,x',c7.trans c',w.sl.weak fun C hC _=>by omega⟩
  ·rw [e1]
   exact ⟨_,h',rfl,x',c7.trans c',by rw [e2];exact Sl.nil _ _ _⟩
end
structure FuR where
 pub:Bool
 nm:Bs
 lv:SL
 ps:SL
 ty:TyV
 bd:SL
 at_:Int
structure FuT where
 lv:List D
 ps:List D
 ty:D
 bd:List D
abbrev FuV:=Bool×zQ2×SL×SL×Int×zQ2×SL×SL×SL×Int×Unit
def fux (x:FuV):List AV:=[.bool x.1,.str x.2.1,.slice x.2.2.1.a x.2.2.1.len x.2.2.1.cap x.2.2.1.sz,.slice x.2.2.2.1.a x.2.2.2.1.len x.2.2.2.1.cap x.2.2.2.1.sz,.int .i64 x.2.2.2.2.1,.str x.2.2.2.2.2.1,.slice x.2.2.2.2.2.2.1.a x.2.2.2.2.2.2.1.len x.2.2.2.2.2.2.1.cap x.2.2.2.2.2.2.1.sz,.slice x.2.2.2.2.2.2.2.1.a x.2.2.2.2.2.2.2.1.len x.2.2.2.2.2.2.2.1.cap x.2.2.2.2.2.2.2.1.sz,.slice x.2.2.2.2.2.2.2.2.1.a x.2.2.2.2.2.2.2.2.1.len x.2.2.2.2.2.2.2.2.1.cap x.2.2.2.2.2.2.2.2.1.sz,.int .i64 x.2.2.2.2.2.2.2.2.2.1]
def fuv (r:FuR):FuV:=(r.pub,r.nm,r.lv,r.ps,r.ty.1,r.ty.2.1,r.ty.2.2.1,r.ty.2.2.2.1,r.bd,r.at_,())
def fuc (r:FuR):List AV:=fux (fuv r)
def fuD (r:FuR) (d:FuT):D:=.t [.b r.pub,.s r.nm,.l d.lv,.l d.ps,d.ty,.l d.bd,.i r.at_]
def jJ (pub:Bool) (nm:Bs) (at_:Int):FuR:=⟨pub,nm,sl0,sl0,dBh,sl0,at_⟩
def kB7:FuT:=⟨[],[],ty0D,[]⟩
theorem gBh {β:Type} (r:FuV) (K:FuV→Option β):iA (.val zD) (some (.agg (fux r))) K=K r:=by
 obtain ⟨x1,x2,x3,x4,x5,x6,x7,x8,x9,x10,_⟩:=r;simp [fux]
theorem bAk {H:Heap} {A:Nat} {r:FuV} (o:H.own A (fux r)) {β:Type} (K:FuV→Option β):iA (.val zD) (H.cells (A,0) 10) K=K r:=by
 have:H.cells (A,0) 10=some (.agg (fux r)):=o.cells (j:=0) (m:=10) (Nat.le_refl _)
 rw [this,gBh]
theorem tBj {H:Heap} {A:Nat} {r0:FuV} (o:H.own A (fux r0)) (x:FuV) {β:Type} (K:FuV→Heap→Option β) :
  (rA (H.store (A,0) [.bool x.1,.str x.2.1,.slice x.2.2.1.a x.2.2.1.len x.2.2.1.cap x.2.2.1.sz,.slice x.2.2.2.1.a x.2.2.2.1.len x.2.2.2.1.cap x.2.2.2.1.sz,.int .i64 x.2.2.2.2.1,.str x.2.2.2.2.2.1,.slice x.2.2.2.2.2.2.1.a x.2.2.2.2.2.2.1.len x.2.2.2.2.2.2.1.cap x.2.2.2.2.2.2.1.sz,.slice x.2.2.2.2.2.2.2.1.a x.2.2.2.2.2.2.2.1.len x.2.2.2.2.2.2.2.1.cap x.2.2.2.2.2.2.2.1.sz,.slice x.2.2.2.2.2.2.2.2.1.a x.2.2.2.2.2.2.2.2.1.len x.2.2.2.2.2.2.2.2.1.cap x.2.2.2.2.2.2.2.2.1.sz,.int .i64 x.2.2.2.2.2.2.2.2.2.1]) fun h7=>iA (.val zD) (h7.cells (A,0) 10) fun x8=>K x8 h7)=K x (H.put A (.row (fux x) .own)):=by
 have:H.store (A,0) (fux x)=some (H.put A (.row (fux x) .own)):=o.store rfl
 show (rA (H.store (A,0) (fux x)) _)=_;rw [this,dA,bAk (yA o _)]
structure FI (T:List Tok) (P:Nat) (X:List Nat) (hb:Heap) (Q R O:Nat) (r:FuR) (d:FuT) (h:Heap) (σ:St) (st:Int):Prop where
 pc:PC T P (O::R::X) h σ st
 chg:Chg [P] hb h
 oQ:h.own Q [.ptr (some (P,0))]
 oR:h.own R (fuc (jJ false [] 0))
 oO:h.own O (fuc r)
 le:hb.next≤Q∧Q<R∧R<O∧P<hb.next
 dlv:Sl h (fun C=>O<C) r.lv d.lv
 dps:Sl h (fun C=>O<C) r.ps d.ps
 dty:Dt h (fun C=>O<C) d.ty (tyc r.ty)
 dbd:Sl h (fun C=>O<C) r.bd d.bd
section
variable {T:List Tok} {P:Nat} {X:List Nat} {st st':Int} {hb h h':Heap} {Q R O:Nat} {r r':FuR} {d d':FuT} {σ σ':St}
theorem FI.dt (x:FI T P X hb Q R O r d h σ st):Dt h (fun C=>O<C) (fuD r d) (fuc r):=
 kAv (jC (a:=[_]) (oAz h _ r.pub) (jC (a:=[_]) (uJ h _ r.nm) (jC (a:=[_]) (aM.2 x.dlv) (jC (a:=[_]) (aM.2 x.dps) (jC (a:=tyc r.ty) x.dty (jC (a:=[_]) (aM.2 x.dbd) (jC (a:=[_]) (b:=[]) (wAj h _ r.at_) (lY h _))))))))
theorem FI.old (x:FI T P X hb Q R O r d h σ st) (c:Chg [P,O] h h'):Chg [P] hb h'∧h'.own Q [.ptr (some (P,0))]∧h'.own R (fuc (jJ false [] 0))∧Sl h' (fun C=>O<C) r.lv d.lv∧Sl h' (fun C=>O<C) r.ps d.ps∧Dt h' (fun C=>O<C) d.ty (tyc r.ty)∧Sl h' (fun C=>O<C) r.bd d.bd:=by
 obtain ⟨x1,x2,x3,x4,x5,x6,x7,x8,x9,x10⟩:=x;have hM:∀ A,O<A→A ∉ [P,O]:=fun C hC=>by simp;omega
 exact ⟨x2.step c (fun A hA hl=>by simp only [List.mem_cons,List.not_mem_nil,or_false] at hA ⊢;omega),x3.chg c (by simp;omega),x4.chg c (by simp;omega),x7.chg c hM,x8.chg c hM,x9.chg c hM,x10.chg c hM⟩
theorem FI.step (x:FI T P X hb Q R O r d h σ st) (c:Chg [P] h h') (y:PC T P (O::R::X) h' σ' st'):FI T P X hb Q R O r d h' σ' st':=by
 have hle:=x.le;obtain ⟨g1,g2,g3,g4,g5,g6,g7⟩:=x.old (c.mono (by simp));exact ⟨y,g1,g2,g3,x.oO.chg c (by simp;omega),x.le,g4,g5,g6,g7⟩
theorem FI.lt (x:FI T P X hb Q R O r d h σ st):O<h.next:=x.oO.2
end
def aH (T:List Tok) (pub:Bool) (at_:Int) (σ:St):D×SC:=
 let n:=pB T 1 σ
 let a:=jB T [60] n.2
 let l:=if a.1=true then ((iD T (aW T) [44] a.2).1,uC T [62] (iD T (aW T) [44] a.2).2) else ([],a.2)
 let b:=jB T [41] (uC T [40] l.2)
 let p:=if b.1=true then ([],b.2) else ((iD T (pF T) [44] b.2).1,uC T [41] (iD T (pF T) [44] b.2).2)
 let c:=jB T [45,62] p.2
 let t:=if c.1=true then oH T 64 c.2 else (ty0D,c.2)
 let k:=yC T 64 (t.2,0)
 (fuD (jJ pub n.1 at_) ⟨l.1,p.1,t.1,k.1⟩,k.2)
theorem fu2 (r:FuR) (v:SL):(fuc { r with lv:=v })[2]? = some (SL.av v):=by simp [fuc,fux,fuv,SL.av]
theorem fs2 (r:FuR) (v v':SL):(fuc { r with lv:=v }).set 2 (SL.av v')=fuc { r with lv:=v' }:=by simp [fuc,fux,fuv,SL.av]
theorem fu3 (r:FuR) (v:SL):(fuc { r with ps:=v })[3]? = some (SL.av v):=by simp [fuc,fux,fuv,SL.av]
theorem fs3 (r:FuR) (v v':SL):(fuc { r with ps:=v }).set 3 (SL.av v')=fuc { r with ps:=v' }:=by simp [fuc,fux,fuv,SL.av]
end Qp
namespace Qp
section
variable {N:Nat} {T:List Tok} {P:Nat} {X:List Nat} {h:Heap} {σ:St} {st:Int}
theorem nB4 (hT:Toks T) (hN:3000≤N) (x:PC T P X h σ st) (pub:Bool) (at_:Int):∃ r h',f103 N (some (P,0)) pub at_ h=some (r,h')∧PC T P X h' (aH T pub at_ σ).2.1 ((aH T pub at_ σ).2.2:Int)∧Chg [P] h h'∧Dt h' (fun C=>h.next≤C) (aH T pub at_ σ).1 (fux r):=by
 unfold f103;have hN1:100≤N:=by omega
 have hP:=x.P_lt;have oQ:=vA h [AV.ptr (some (P,0))];have cQ:=qA h (.row [AV.ptr (some (P,0))] .own);have nQ:(h.push (.row [AV.ptr (some (P,0))] .own)).next=h.next+1:=rfl;dsimp only;generalize h.push (.row [AV.ptr (some (P,0))] .own)=h1 at *;have oR:=vA h1 (fuc (jJ false [] 0));have cR:=qA h1 (.row (fuc (jJ false [] 0)) .own);have eR:h1.push (.row [(.bool false),(.str []),(.slice none 0 0 0),(.slice none 0 0 0),(.int .i64 0),(.str []),(.slice none 0 0 0),(.slice none 0 0 0),(.slice none 0 0 0),(.int .i64 0)] .own)=h1.push (.row (fuc (jJ false [] 0)) .own):=rfl;have nR:(h1.push (.row (fuc (jJ false [] 0)) .own)).next=h1.next+1:=rfl;have x2:=(x.chg cQ).add cR (A:=h1.next) (Nat.le_refl _) (Nat.lt_succ_self _);rw [eR];generalize h1.push (.row (fuc (jJ false [] 0)) .own)=h2 at *;have oQ2:=oQ.chg cR (by simp);have c02:=cQ.trans cR;have r2:h2.cell (h.next,0)=some (.ptr (some (P,0))):=oQ2.cell 0;simp only [r2,fA,qB,dA,Nat.zero_add];obtain ⟨h5,e5,c5,x5⟩:=x2.setSt 0;rw [e5,dA];have oQ5:=oQ2.chg c5 (by simp;omega);have r5:h5.cell (h.next,0)=some (.ptr (some (P,0))):=oQ5.cell 0;simp only [r5,fA,qB];obtain ⟨h8,e8,c8,x8⟩:=rU (N:=N) hT x5 (k:=1) (by decide);rw [e8,aA];have c28:=c5.trans c8;have oQ8:=oQ5.chg c8 (by simp;omega);have oR8:=oR.chg c28 (by simp;omega);have hn8:=c28.next;simp only [aH];generalize (pB T 1 σ).1=nm at *;generalize (pB T 1 σ).2=σ1 at *;have oO0:=vA h8 (fuc (jJ false [] 0));have cO0:=qA h8 (.row (fuc (jJ false [] 0)) .own);have eO:h8.push (.row [(.bool false),(.str []),(.slice none 0 0 0),(.slice none 0 0 0),(.int .i64 0),(.str []),(.slice none 0 0 0),(.slice none 0 0 0),(.slice none 0 0 0),(.int .i64 0)] .own)=h8.push (.row (fuc (jJ false [] 0)) .own):=rfl;have hstO:(h8.push (.row (fuc (jJ false [] 0)) .own)).store (h8.next,0) [(.bool pub),(.str nm),(.slice none 0 0 0),(.slice none 0 0 0),(.int .i64 0),(.str []),(.slice none 0 0 0),(.slice none 0 0 0),(.slice none 0 0 0),(.int .i64 at_)]=some ((h8.push (.row (fuc (jJ false [] 0)) .own)).put h8.next (.row (fuc (jJ pub nm at_)) .own)):=oO0.store rfl;rw [eO,hstO,dA];have oO:=yA oO0 (fuc (jJ pub nm at_));have cO:Chg [] h8 ((h8.push (.row (fuc (jJ false [] 0)) .own)).put h8.next (.row (fuc (jJ pub nm at_)) .own)):=cO0.put (.inr (Nat.le_refl _)) _;have nO:((h8.push (.row (fuc (jJ false [] 0)) .own)).put h8.next (.row (fuc (jJ pub nm at_)) .own)).next=h8.next+1:=rfl;have x10:=x8.add cO (A:=h8.next) (Nat.le_refl _) (Nat.lt_succ_self _);have oQ10:=oQ8.chg cO (by simp);have oR10:=oR8.chg cO (by simp);have c010:Chg [P] h ((h8.push (.row (fuc (jJ false [] 0)) .own)).put h8.next (.row (fuc (jJ pub nm at_)) .own)):=((c02.mono (by simp)).trans c28).trans (cO.mono (by simp));generalize (h8.push (.row (fuc (jJ false [] 0)) .own)).put h8.next (.row (fuc (jJ pub nm at_)) .own)=h10 at *;have i10:FI T P X h h.next h1.next h8.next (jJ pub nm at_) kB7 h10 σ1 0:=⟨x10,c010,oQ10,oR10,oO,⟨Nat.le_refl _,by omega,by omega,hP⟩,Sl.nil _ _ _,Sl.nil _ _ _,gY _ _ _ _,Sl.nil _ _ _⟩;generalize hQe:h.next=Q at *;generalize h1.next=R at *;generalize h8.next=O at *;have q10:h10.cell (Q,0)=some (.ptr (some (P,0))):=i10.oQ.cell 0;simp only [q10,fA,qB];obtain ⟨h13,e13,c13,y13⟩:=qI (N:=N) hT i10.pc (w:=[60]) (by decide);rw [e13,aA];have i13:=i10.step c13 y13;have q13:h13.cell (Q,0)=some (.ptr (some (P,0))):=i13.oQ.cell 0
 -- lifetimes
 have h21s:∃ v h21,(bif (jB T [60] σ1).1 then
    (iA (.val zK2) (h13.cell (Q,0)) fun (x14:zJ2)=>
    (lA (mU N x14 [44] ((some (O,0)),(some (Q,0)),()) h13) fun (x15:(Unit)) h16=>
    (iA (.val zK2) (h16.cell (Q,0)) fun (x17:zJ2)=>
    (lA (f149 N x17 [62] h16) fun (x18:(Unit)) h19=>
    some (((some (Q,0)),(some (R,0)),(some (O,0)),()),h19)))))
    else
    some (((some (Q,0)),(some (R,0)),(some (O,0)),()),h13))=some (((some (Q,0)),(some (R,0)),(some (O,0)),()),h21)∧
   FI T P X h Q R O { jJ pub nm at_ with lv:=v } { kB7 with lv:=(if (jB T [60] σ1).1=true then ((iD T (aW T) [44] (jB T [60] σ1).2).1,uC T [62] (iD T (aW T) [44] (jB T [60] σ1).2).2) else ([],(jB T [60] σ1).2)).1 } h21 (if (jB T [60] σ1).1=true then ((iD T (aW T) [44] (jB T [60] σ1).2).1,uC T [62] (iD T (aW T) [44] (jB T [60] σ1).2).2) else ([],(jB T [60] σ1).2)).2 0:=by
  have hle:=i13.le
  cases hb:(jB T [60] σ1).1 with
  | false=>exact ⟨sl0,h13,rfl,i13⟩
  | true=>
   simp only [cond_true,if_true,q13,fA,qB];have hl:=i13.lt;have f:CF P (O::R::X) h13 O Q 2 2 (fun v=>fuc { jJ pub nm at_ with lv:=v }):=⟨by omega,by omega,by simp,fun v=>fu2 _ v,fun v v'=>fs2 _ v v'⟩;obtain ⟨h16,e16,ci⟩:=fAs (N:=N) hT hN1 f ⟨i13.pc,Chg.refl _ _,i13.oQ,sl0,i13.oO,Ow.nil _ _ _ _⟩;rw [e16,aA];obtain ⟨v,oO16,w16⟩:=ci.ex;have q16:h16.cell (Q,0)=some (.ptr (some (P,0))):=ci.q.cell 0;simp only [q16,fA,qB];obtain ⟨g1,g2,g3,g4,g5,g6,g7⟩:=i13.old ci.chg;have i16:FI T P X h Q R O { jJ pub nm at_ with lv:=v } { kB7 with lv:=(iD T (aW T) [44] (jB T [60] σ1).2).1 } h16 (iD T (aW T) [44] (jB T [60] σ1).2).2 0:=⟨ci.pc,g1,g2,g3,oO16,i13.le,w16.sl.weak (fun C hC _=>by omega),g5,g6,g7⟩;obtain ⟨h19,e19,c19,y19⟩:=gG (N:=N) hT i16.pc (w:=[62]) (by decide);rw [e19,aA];exact ⟨v,h19,rfl,i16.step c19 y19⟩
 obtain ⟨lv,h21,e21,i21⟩:=h21s;rw [e21,aA];generalize (if (jB T [60] σ1).1=true then ((iD T (aW T) [44] (jB T [60] σ1).2).1,uC T [62] (iD T (aW T) [44] (jB T [60] σ1).2).2) else ([],(jB T [60] σ1).2))=zl at *;have q21:h21.cell (Q,0)=some (.ptr (some (P,0))):=i21.oQ.cell 0;simp only [dA,q21,fA,qB];obtain ⟨h25,e25,c25,y25⟩:=gG (N:=N) hT i21.pc (w:=[40]) (by decide);rw [e25,aA];have i25:=i21.step c25 y25;have q25:h25.cell (Q,0)=some (.ptr (some (P,0))):=i25.oQ.cell 0;simp only [q25,fA,qB];obtain ⟨h29,e29,c29,y29⟩:=qI (N:=N) hT i25.pc (w:=[41]) (by decide);rw [e29,aA];have i29:=i25.step c29 y29;have q29:h29.cell (Q,0)=some (.ptr (some (P,0))):=i29.oQ.cell 0;have h40s:∃ v h40,(bif !(jB T [41] (uC T [40] zl.2)).1 then
    (iA (.val zK2) (h29.cell (Q,0)) fun (x32:zJ2)=>
    (lA (nU N x32 [44] ((some (Q,0)),(some (O,0)),()) h29) fun (x33:(Unit)) h34=>
    (iA (.val zK2) (h34.cell (Q,0)) fun (x36:zJ2)=>
    (lA (f149 N x36 [41] h34) fun (x37:(Unit)) h38=>
    some (((some (Q,0)),(some (R,0)),(some (O,0)),()),h38)))))
    else
    some (((some (Q,0)),(some (R,0)),(some (O,0)),()),h29))=some (((some (Q,0)),(some (R,0)),(some (O,0)),()),h40)∧
   FI T P X h Q R O { jJ pub nm at_ with lv:=lv,ps:=v } { kB7 with lv:=zl.1,ps:=(if (jB T [41] (uC T [40] zl.2)).1=true then ([],(jB T [41] (uC T [40] zl.2)).2) else ((iD T (pF T) [44] (jB T [41] (uC T [40] zl.2)).2).1,uC T [41] (iD T (pF T) [44] (jB T [41] (uC T [40] zl.2)).2).2)).1 } h40 (if (jB T [41] (uC T [40] zl.2)).1=true then ([],(jB T [41] (uC T [40] zl.2)).2) else ((iD T (pF T) [44] (jB T [41] (uC T [40] zl.2)).2).1,uC T [41] (iD T (pF T) [44] (jB T [41] (uC T [40] zl.2)).2).2)).2 0:=by
  have hle:=i29.le
  cases hb:(jB T [41] (uC T [40] zl.2)).1 with
  | true=>exact ⟨sl0,h29,rfl,i29⟩
  | false=>
   simp only [Bool.not_false,cond_true,Bool.false_eq_true,if_false,q29,fA,qB];have hl:=i29.lt;have f:CF P (O::R::X) h29 O Q 6 3 (fun v=>fuc { jJ pub nm at_ with lv:=lv,ps:=v }):=⟨by omega,by omega,by simp,fun v=>fu3 { jJ pub nm at_ with lv:=lv } v,fun v v'=>fs3 { jJ pub nm at_ with lv:=lv } v v'⟩;obtain ⟨h34,e34,ci⟩:=gAg (N:=N) hT hN1 f ⟨i29.pc,Chg.refl _ _,i29.oQ,sl0,i29.oO,Ow.nil _ _ _ _⟩;rw [e34,aA];obtain ⟨v,oO34,w34⟩:=ci.ex;have q34:h34.cell (Q,0)=some (.ptr (some (P,0))):=ci.q.cell 0;simp only [q34,fA,qB];obtain ⟨g1,g2,g3,g4,g5,g6,g7⟩:=i29.old ci.chg;have i34:FI T P X h Q R O { jJ pub nm at_ with lv:=lv,ps:=v } { kB7 with lv:=zl.1,ps:=(iD T (pF T) [44] (jB T [41] (uC T [40] zl.2)).2).1 } h34 (iD T (pF T) [44] (jB T [41] (uC T [40] zl.2)).2).2 0:=⟨ci.pc,g1,g2,g3,oO34,i29.le,g4,w34.sl.weak (fun C hC _=>by omega),g6,g7⟩;obtain ⟨h38,e38,c38,y38⟩:=gG (N:=N) hT i34.pc (w:=[41]) (by decide);rw [e38,aA];exact ⟨v,h38,rfl,i34.step c38 y38⟩
 obtain ⟨ps,h40,e40,i40⟩:=h40s;rw [e40,aA];generalize (if (jB T [41] (uC T [40] zl.2)).1=true then ([],(jB T [41] (uC T [40] zl.2)).2) else ((iD T (pF T) [44] (jB T [41] (uC T [40] zl.2)).2).1,uC T [41] (iD T (pF T) [44] (jB T [41] (uC T [40] zl.2)).2).2))=zp at *;have q40:h40.cell (Q,0)=some (.ptr (some (P,0))):=i40.oQ.cell 0;simp only [dA,q40,fA,qB];obtain ⟨h44,e44,c44,y44⟩:=qI (N:=N) hT i40.pc (w:=[45,62]) (by decide);rw [e44,aA];have i44:=i40.step c44 y44;have q44:h44.cell (Q,0)=some (.ptr (some (P,0))):=i44.oQ.cell 0;have h52s:∃ v h52,(bif (jB T [45,62] zp.2).1 then
    (iA (.val zK2) (h44.cell (Q,0)) fun (x46:zJ2)=>
    (lA (f55 N N x46 1 h44) fun (x47:zM) h48=>
    (rA (h48.store (O,4) [(.int .i64 x47.1),(.str x47.2.1),(.slice x47.2.2.1.a x47.2.2.1.len x47.2.2.1.cap x47.2.2.1.sz),(.slice x47.2.2.2.1.a x47.2.2.2.1.len x47.2.2.2.1.cap x47.2.2.2.1.sz)]) fun h50=>
    some (((some (Q,0)),(some (R,0)),(some (O,0)),()),h50))))
    else
    some (((some (Q,0)),(some (R,0)),(some (O,0)),()),h44))=some (((some (Q,0)),(some (R,0)),(some (O,0)),()),h52)∧
   FI T P X h Q R O { jJ pub nm at_ with lv:=lv,ps:=ps,ty:=v } { kB7 with lv:=zl.1,ps:=zp.1,ty:=(if (jB T [45,62] zp.2).1=true then oH T 64 (jB T [45,62] zp.2).2 else (ty0D,(jB T [45,62] zp.2).2)).1 } h52 (if (jB T [45,62] zp.2).1=true then oH T 64 (jB T [45,62] zp.2).2 else (ty0D,(jB T [45,62] zp.2).2)).2 0:=by
  have hle:=i44.le
  cases hb:(jB T [45,62] zp.2).1 with
  | false=>exact ⟨dBh,h44,rfl,i44⟩
  | true=>
   simp only [cond_true,if_true,q44,fA,qB];have hl:=i44.lt;obtain ⟨t,h48,e48,y48,c48,d48⟩:=nAz (N:=N) hT hN1 i44.pc;rw [e48,aA];have i48:=i44.step c48 y48;have hst:h48.store (O,4) [(.int .i64 t.1),(.str t.2.1),(.slice t.2.2.1.a t.2.2.1.len t.2.2.1.cap t.2.2.1.sz),(.slice t.2.2.2.1.a t.2.2.2.1.len t.2.2.2.1.cap t.2.2.2.1.sz)]=some (h48.put O (.row (fuc { jJ pub nm at_ with lv:=lv,ps:=ps,ty:=t }) .own)):=fD i48.oO (by simp only [fuc,fux,fuv,aF,yE,cG,Option.map_some]);rw [hst,dA];have cp:=i48.oO.put (fuc { jJ pub nm at_ with lv:=lv,ps:=ps,ty:=t });obtain ⟨g1,g2,g3,g4,g5,g6,g7⟩:=i48.old (cp.mono (N:=[P,O]) (by simp));exact ⟨t,_,rfl,i48.pc.chg1 cp (by simp),g1,g2,g3,yA i48.oO _,i48.le,g4,g5,(d48.chg cp (fun C hC=>by simp;omega)).weak (fun C hC _=>by omega),g7⟩
 obtain ⟨t,h52,e52,i52⟩:=h52s;rw [e52,aA];generalize (if (jB T [45,62] zp.2).1=true then oH T 64 (jB T [45,62] zp.2).2 else (ty0D,(jB T [45,62] zp.2).2))=zt at *;have q52:h52.cell (Q,0)=some (.ptr (some (P,0))):=i52.oQ.cell 0;simp only [dA,q52,fA,qB];have hlt:=i52.lt;have hle:=i52.le;obtain ⟨v,h56,e56,y56,c56,s56⟩:=gAx (N:=N) (P:=P) hT hN 64 N (Nat.le_refl _) (by omega) (O::R::X) h52 zt.2 0 i52.pc (.inl (by show 0≤2000;omega));rw [show ((65-64:Nat):Int)=1 from rfl] at e56;rw [e56,aA];have i56:=i52.step c56 y56;have hst:h56.store (O,8) [.slice v.a v.len v.cap v.sz]=some (h56.put O (.row (fuc { jJ pub nm at_ with lv:=lv,ps:=ps,ty:=t,bd:=v }) .own)):=fD i56.oO (by simp only [fuc,fux,fuv,aF,yE,cG,Option.map_some]);simp only [Nat.zero_add];rw [hst,dA];have cp:=i56.oO.put (fuc { jJ pub nm at_ with lv:=lv,ps:=ps,ty:=t,bd:=v });obtain ⟨g1,g2,g3,g4,g5,g6,g7⟩:=i56.old (cp.mono (N:=[P,O]) (by simp));have i58:FI T P X h Q R O { jJ pub nm at_ with lv:=lv,ps:=ps,ty:=t,bd:=v } ⟨zl.1,zp.1,zt.1,(yC T 64 (zt.2,0)).1⟩ (h56.put O (.row (fuc { jJ pub nm at_ with lv:=lv,ps:=ps,ty:=t,bd:=v }) .own)) (yC T 64 (zt.2,0)).2.1 ((yC T 64 (zt.2,0)).2.2:Int):=⟨i56.pc.chg1 cp (by simp),g1,g2,g3,yA i56.oO _,i56.le,g4,g5,g6,(s56.chg cp (fun C hC=>by simp;omega)).weak (fun C hC _=>by omega)⟩;generalize h56.put O (.row (fuc { jJ pub nm at_ with lv:=lv,ps:=ps,ty:=t,bd:=v }) .own)=h58 at *;rw [bAk (r:=fuv { jJ pub nm at_ with lv:=lv,ps:=ps,ty:=t,bd:=v }) i58.oO];refine ⟨fuv { jJ pub nm at_ with lv:=lv,ps:=ps,ty:=t,bd:=v },_,tBj i58.oR (fuv { jJ pub nm at_ with lv:=lv,ps:=ps,ty:=t,bd:=v }) (fun x h=>some (x,h)),?_,?_,?_⟩
 ·exact (i58.pc.chg1 (i58.oR.put _) (by simp)).sub (by simp +contextual)
 ·exact i58.chg.step (i58.oR.put _) (fun A hA hl=>by rw [List.mem_singleton] at hA;omega)
 ·exact (i58.dt.chg (i58.oR.put _) (fun C hC=>by simp;omega)).weak fun C hC _=>by omega
end
end Qp
namespace Qp
abbrev Er3:=Option (Int×Int×Option Int)
def ErrW (h:Heap) (v:AV):Er3→Prop
 | none=>v=AV.nilIface
 | some (c,a,none)=>kA2 h v c a
 | some (c,a,some b)=>∃ A B,v=AV.iface 127 (.ptr (some (A,0)))∧h.own A [.int .i64 c,.int .i64 a,AV.iface 127 (.ptr (some (B,0)))]∧h.own B [.int .i64 c,.int .i64 b,AV.iface 78 (.int .i64 c)]
def inS (at_:Int):Er→Er3
 | none=>none
 | some (c,a)=>some (c,at_,some a)
def oAg:Er→Er3
 | none=>none
 | some (c,a)=>some (c,a,none)
theorem qAs {h:Heap} {A:Nat} {p:Nat×Nat} {v:AV} (hp:Qw.pinned h=true) (o:h.own A [v]):Qz.asF (AV.iface 127 (.ptr (some p))) (AV.iface 214 (.ptr (some (A,0)))) h=some (true,h.put A (.row [.ptr (some p)] .own)):=by
 simp only [Qw.pinned,Qx.pinned,Bool.and_eq_true] at hp;obtain ⟨⟨⟨⟨b1,b2⟩,b3⟩,_⟩,_⟩:=hp;have hr:Qa.jAq h A=some ([v],.own):=by
  have:=o.1
  unfold Qa.jAq;unfold Heap.g at this;rw [this]
 simp [Qz.asF,Qa.asN,b1,b2,b3,hr,over]
section
variable {N:Nat} {T:List Tok} {P:Nat} {X:List Nat} {h:Heap} {σ:St} {st:Int}
theorem bAn {B:Nat} {c:Int} {w:List AV} (hp:Qw.pinned h=true) (h4:4≤h.next) (o:h.own B (.int .i64 c::w)):∃ h',f159 N (AV.iface 127 (.ptr (some (B,0)))) h=some (c,h')∧Chg [] h h':=by
 unfold f159 f191;simp only [dQ,fA,rB,cond_false,eQ,cond_true];have o1:=vA h [AV.ptr none];have c1:=qA h (.row [AV.ptr none] .own);have p1:=vJ c1 (by simp) h4 hp;have e2:f192 N (AV.iface 127 (.ptr (some (B,0)))) (AV.iface 214 (.ptr (some (h.next,0)))) (h.push (.row [AV.ptr none] .own))=_:=qAs p1 o1;rw [e2,aA];have o2:=yA o1 [AV.ptr (some (B,0))];have c2:Chg [] h ((h.push (.row [AV.ptr none] .own)).put h.next (.row [AV.ptr (some (B,0))] .own)):=c1.put (.inr (Nat.le_refl _)) _;have r2:((h.push (.row [AV.ptr none] .own)).put h.next (.row [AV.ptr (some (B,0))] .own)).cell (h.next,0)=some (.ptr (some (B,0))):=o2.cell 0;have r3:((h.push (.row [AV.ptr none] .own)).put h.next (.row [AV.ptr (some (B,0))] .own)).cell (B,0)=some (.int .i64 c):=(o.chg c2 (by simp)).cell 0;simp only [cond_true,r2,fA,qB,aA,Option.isNone_some,Bool.not_false,dA,Nat.zero_add,r3,bD];exact ⟨_,rfl,c2⟩
theorem oB4 (hp:Qw.pinned h=true) (h4:4≤h.next) {e:Er} {v:AV} (hv:ErrV h P X v e) (at_:Int):∃ v' h',f104 N v at_ h=some (v',h')∧Chg [] h h'∧ErrW h' v' (inS at_ e)∧AV.single v'=true:=by
 cases e with
 | none=>
  have hv:v=AV.nilIface:=hv;subst hv;exact ⟨AV.nilIface,h,bAx N at_ h,Chg.refl _ _,rfl,rfl⟩
 | some q=>
  obtain ⟨c,a⟩:=q;obtain ⟨B,rfl,_,o⟩:=hv;obtain ⟨h3,e3,c3⟩:=bAn (N:=N) hp h4 o;rw [mAm,e3,aA];have c4:=qA h3 (.row [(.int .i64 c),(.int .i64 at_),(AV.iface 127 (.ptr (some (B,0))))] .own);exact ⟨_,_,rfl,c3.trans c4,⟨h3.next,B,rfl,vA h3 _,(o.chg c3 (by simp)).chg c4 (by simp)⟩,rfl⟩
theorem ErrW.chg {h h':Heap} {v:AV} {e:Er3} {M:List Nat} (x:ErrW h v e) (c:Chg M h h') (hM:∀ A∈M,∃ cs w,h.own A (cs::w)∧∀ n,cs≠.int .i64 n):ErrW h' v e:=by
 have key:∀ {A:Nat} {n:Int} {w:List AV},h.own A (.int .i64 n::w)→h'.own A (.int .i64 n::w):=fun {A n w} o=>o.chg c fun hm=>by
  obtain ⟨cs,w',o',hn⟩:=hM A hm
  have:=o.1.symm.trans o'.1
  simp only [Option.some.injEq,Blk.row.injEq,List.cons.injEq,and_true] at this;exact hn n this.1.symm
 match e with
 | none=>exact x
 | some (c,a,none)=>
  obtain ⟨F,f1,f2⟩:=x;exact ⟨F,f1,key f2⟩
 | some (c,a,some b)=>
  obtain ⟨A,B,f1,f2,f3⟩:=x;exact ⟨A,B,f1,key f2,key f3⟩
theorem PC.chgC {h':Heap} {C:Nat} {a b:SL} (x:PC T P X h σ st) (o:h.own C [SL.av a,SL.av b]) (hC:C<P∧4≤C) (c:Chg [C] h h'):PC T P X h' σ st:=by
 obtain ⟨⟨⟨s,v,h1,h2,h3,h4⟩,h5,h6⟩,hp,p4⟩:=x;have hs:∀ A,s.blk=some A→A≠C:=by
  intro A hA e;subst e;obtain ⟨vs,hse,hde⟩:=h2.els
  cases hq:s.a with
  | none=>simp [SL.blk,hq] at hA
  | some q=>
   obtain ⟨A',off⟩:=q;simp [SL.blk,hq] at hA;subst hA;obtain ⟨_,cs,g1,g2⟩:=hse.2.2 A' off hq;rw [o.1] at g1;have g1':cs=[SL.av a,SL.av b]:=by
    have:(some [SL.av a,SL.av b]:Option (List AV))=some cs:=g1
    simpa using this.symm
   subst g1'
   cases T with
   | nil=>simp at h5
   | cons t r=>
    rw [List.map_cons] at hde;simp only [De] at hde;obtain ⟨x1,x2,hx,hl,hd,_⟩:=hde;have hd':=oAf hd;subst hd';rw [hx] at g2;have hm:AV.int .i64 t.1∈[SL.av a,SL.av b]:=by
     have:AV.int .i64 t.1∈([SL.av a,SL.av b].drop off).take (tkc t.1 t.2.1 (t.2.2:Int)++x2).length:=by
      rw [g2];simp [tkc]
     exact List.mem_of_mem_drop (List.mem_of_mem_take this)
    simp [SL.av] at hm
 have h2':Sl h (fun A=>A<P∧A≠C) s (T.map iAc):=by
  refine ⟨h2.len,h2.cap,fun A hA=>⟨h2.blk A hA,hs A hA⟩,?_⟩;obtain ⟨vs,hse,hde⟩:=h2.els;refine ⟨vs,hse,?_⟩;have gen:∀ (l:List Tok) (vs:List AV),De h (fun C=>C<P) s.sz (l.map iAc) vs→De h (fun A=>A<P∧A≠C) s.sz (l.map iAc) vs:=by
   intro l
   induction l with
   | nil=>intro vs hd;exact hd
   | cons t r ih=>
    intro vs hd;rw [List.map_cons] at hd ⊢;simp only [De] at hd ⊢;obtain ⟨x1,x2,e1,e2,e3,e4⟩:=hd;refine ⟨x1,x2,e1,e2,?_,ih _ e4⟩
    have:=oAf e3
    subst this;exact kAv (jC (a:=[_]) (wAj h _ _) (jC (a:=[_]) (uJ h _ _) (jC (a:=[_]) (b:=[]) (wAj h _ _) (lY h _))))
  exact gen T vs hde
 have h4':ErrV h' P X v σ.2:=by
  cases he:σ.2 with
  | none=>rw [he] at h4;exact h4
  | some q=>
   rw [he] at h4;obtain ⟨A,g1,g2,g3⟩:=h4;refine ⟨A,g1,g2,g3.chg c fun hm=>?_⟩;rw [List.mem_singleton] at hm;subst hm
   have:=g3.1.symm.trans o.1
   simp [SL.av] at this
 exact ⟨⟨⟨s,v,h1.chg c (by simp;omega),(h2'.chg c (fun A hA=>by simp;exact hA.2)).weak fun A hA _=>hA.1,h3,h4'⟩,h5,fun A hA=>⟨(h6 A hA).1,Nat.lt_of_lt_of_le (h6 A hA).2 c.next⟩⟩,vJ c (by simp;omega) (by have:=o.2;omega) hp,p4⟩
end
end Qp
namespace Qp
structure ItS where
 d:Option (Bool×D)
 i:Nat
 e:Er3
 n:Nat
def tE (T:List Tok) (σ:St):ItS:=
 let p:=jB T [112,117,98] σ
 let at_:Int:=((tk T p.2.1).2.2:Int)
 let b:=jB T [115,116,114,117,99,116] p.2
 if b.1=true then ⟨some (true,(pD T p.1 at_ b.2).1),(pD T p.1 at_ b.2).2.1,inS at_ (pD T p.1 at_ b.2).2.2,0⟩ else
 let f:=jB T [102,110] b.2
 if f.1=true then ⟨some (false,(aH T p.1 at_ f.2).1),(aH T p.1 at_ f.2).2.1.1,inS at_ (aH T p.1 at_ f.2).2.1.2,(aH T p.1 at_ f.2).2.2⟩
 else ⟨none,(jE T 21 f.2).1,oAg (jE T 21 f.2).2,0⟩
theorem iAx:AppN E 22 72 5 1000:=AppN.of (by kernel_rfl)
theorem jAx:AppN E 23 44 10 1000:=AppN.of (by kernel_rfl)
def cAn (h0 h:Heap) (C:Nat) (xs ys:List D):Prop:=∃ v w,h.own C [SL.av v,SL.av w]∧OwV (fun A=>h0.next≤A∧w.blk≠some A) h v 5 xs∧OwV (fun A=>h0.next≤A∧v.blk≠some A) h w 10 ys
def pA4 (d:Option (Bool×D)) (xs:List D):List D:=match d with | some (true,x)=>xs++[x] | _=>xs
def qA4 (d:Option (Bool×D)) (ys:List D):List D:=match d with | some (false,y)=>ys++[y] | _=>ys
def PE (T:List Tok) (P:Nat) (h:Heap) (i:Nat) (e:Er3):Prop:=(∃ v,h.cell (P,3)=some v∧ErrW h v e)∧(e=none→∃ st,PC T P [] h (i,none) st)
section
variable {N:Nat} {T:List Tok} {P:Nat} {X:List Nat} {h:Heap} {σ:St} {st:Int}
theorem vAc (x:PC T P X h σ st) (at_:Int):∃ h',(rA (some (P,0)) fun q16=>
   (iA (.val zP2) (h.cell (q16.1,q16.2+3)) fun (x17:AV)=>
   (lA (f104 N x17 at_ h) fun (x18:AV) h19=>
   (rA (some (P,0)) fun q20=>
   (uD (AV.single x18)
   (rA (h19.store (q20.1,q20.2+3) [x18]) fun h21=>
   some ((()),h21)))))))=some ((),h')∧Chg [P] h h'∧PE T P h' σ.1 (inS at_ σ.2):=by
 obtain ⟨v,k3,hv⟩:=x.pa.readE;have hP:=x.P_lt;obtain ⟨v',h19,e19,c19,w19,s19⟩:=oB4 (N:=N) x.pin (by have:=x.p4;omega) hv at_;simp only [dA,Nat.zero_add,k3,fA,bE];rw [e19,aA,s19,aC];have x19:=x.chg c19;obtain ⟨⟨⟨s,v0,h1,h2,h3,h4⟩,h5,h6⟩,hp,p4⟩:=x19;have hst:h19.store (P,3) [v']=some (h19.put P (.row [SL.av s,.int .i64 (σ.1:Int),.int .i64 st,v'] .own)):=h1.store1 (j:=3) (by show 3<4;omega) _;rw [hst,dA];have cp:=h1.put [SL.av s,.int .i64 (σ.1:Int),.int .i64 st,v'];have hl:=h1.2;refine ⟨_,rfl,(c19.mono (by simp)).trans cp,⟨v',(yA h1 _).cell 3,w19.chg cp fun A hA=>by
  rw [List.mem_singleton] at hA;subst hA;exact ⟨_,_,h1,fun n=>by simp [SL.av]⟩⟩,fun he=>?_⟩
 obtain ⟨i,e⟩:=σ
 cases e with
 | some q=>obtain ⟨c,a⟩:=q;cases he
 | none=>
  have hv':v'=AV.nilIface:=w19;subst hv';exact ⟨st,⟨⟨⟨s,AV.nilIface,yA h1 _,h2.chg cp (fun A hA=>by simp;omega),h3,rfl⟩,h5,by simp⟩,vJ cp (by simp;omega) (by omega) hp,p4⟩⟩
theorem oBb (hT:Toks T) (hN:3000≤N) {h0:Heap} {C:Nat} {xs ys:List D} {i:Nat} (x:PC T P [] h (i,none) st) (hC:C<P∧4≤C) (hP0:P<h0.next) (ch:Chg [P,C] h0 h) (cr:cAn h0 h C xs ys) (hx:xs.length≤1000) (hy:ys.length≤1000) :
  ∃ h',f63 N (some (P,0)) (some (C,0)) h=some ((),h')∧Chg [P,C] h0 h'∧PE T P h' (tE T (i,none)).i (tE T (i,none)).e∧cAn h0 h' C (pA4 (tE T (i,none)).d xs) (qA4 (tE T (i,none)).d ys):=by
 unfold f63;obtain ⟨h2,e2,c2,x2⟩:=iI (N:=N) hT x (w:=[112,117,98]) (by decide);rw [e2,aA];simp only [tE];obtain ⟨h4,e4,c4⟩:=cN (N:=N) x2.pa;rw [e4,aA];have x4:=x2.chg c4;obtain ⟨h6,e6,c6,x6⟩:=iI (N:=N) hT x4 (w:=[115,116,114,117,99,116]) (by decide);rw [e6,aA];have c06:Chg [P] h h6:=(c2.trans (c4.mono (by simp))).trans c6;have ch6:=ch.trans (c06.mono (N:=[P,C]) (by simp));have crStep:∀ {h1 h2:Heap},Chg [P] h1 h2→cAn h0 h1 C xs ys→cAn h0 h2 C xs ys:=by
  rintro h1 h2 c ⟨v,w,o,w1,w2⟩;exact ⟨v,w,o.chg c (by simp;omega),w1.chg c (by intro A hA _;simp;omega),w2.chg c (by intro A hA _;simp;omega)⟩
 have cr6:=crStep c06 cr;have hn06:=ch6.next;generalize (jB T [112,117,98] (i,none)).1=pub at *;generalize (jB T [112,117,98] (i,none)).2=σ2 at *;simp only [kAj];generalize ((tk T σ2.1).2.2:Int)=at_ at *
 cases hb:(jB T [115,116,114,117,99,116] σ2).1 with
 | true=>
  obtain ⟨v,w,o6,w1,w2⟩:=cr6;have hs:=(nH hb).1;rw [hs] at x6;rw [hs];simp only [cond_true,if_true,dA,Nat.zero_add];have r6:h6.cell (C,0)=some (.slice v.a v.len v.cap v.sz):=o6.cell 0;simp only [r6,fA,uA];have hv:∀ A∈v.blk.toList,h0.next≤A∧A<h6.next∧w.blk≠some A:=fun A hA=>by
   have:=w1.ge A (by simpa using hA);exact ⟨this.1.1,this.2,this.1.2⟩
  have y6:PC T P v.blk.toList h6 (σ2.1+1,none) st:=x6.free fun A hA=>by have:=hv A hA;omega
  obtain ⟨r,h10,e10,x10,c10,d10⟩:=yB3 (N:=N) hT (by omega) y6 pub at_;rw [e10,aA];have o10:=o6.chg c10 (by simp;omega);have w1_10:=w1.chg c10 (by intro A hA _;simp;omega);have w2_10:=w2.chg c10 (by intro A hA _;simp;omega);have hn10:=c10.next;have hw:∀ A∈w.blk.toList,h0.next≤A∧A<h6.next:=fun A hA=>by have:=w2.ge A (by simpa using hA);exact ⟨this.1.1,this.2⟩
  obtain ⟨v',h13,eA,w1_13,c13,hb13⟩:=dI (cs:=stc r) iAx (by decide) w1_10 (d10.weak fun A hA _=>⟨⟨by omega,fun e=>by have:=hw A (by simpa using e);omega⟩,fun e=>by have:=hv A (by simpa using e);omega⟩) rfl (fun A hA=>⟨by omega,fun e=>by have:=hw A (by simpa using e);omega⟩) (by omega);have eA':iB E 22 22 (.slice v.a v.len v.cap v.sz) (.slice (some (h10.next,0)) 1 1 5) (h10.push (.row [(.bool r.1),(.str r.2.1),(.slice r.2.2.1.a r.2.2.1.len r.2.2.1.cap r.2.2.1.sz),(.slice r.2.2.2.1.a r.2.2.2.1.len r.2.2.2.1.cap r.2.2.2.1.sz),(.int .i64 r.2.2.2.2.1)] .own))=some (.slice v'.a v'.len v'.cap v'.sz,h13):=eA;rw [eA',lG,uA];have o13:=o10.chg c13 (fun hm=>by have:=hv C hm;omega);have o11:=o10.chg (qA h10 (.row (stc r) .own)) (by simp);have k11:(h10.push (.row [(.bool r.1),(.str r.2.1),(.slice r.2.2.1.a r.2.2.1.len r.2.2.1.cap r.2.2.1.sz),(.slice r.2.2.2.1.a r.2.2.2.1.len r.2.2.2.1.cap r.2.2.2.1.sz),(.int .i64 r.2.2.2.2.1)] .own)).cell (C,0)=some (.slice v.a v.len v.cap v.sz):=o11.cell 0;have k10:h10.cell (C,0)=some (.slice v.a v.len v.cap v.sz):=o10.cell 0;have hst:h13.store (C,0) [.slice v'.a v'.len v'.cap v'.sz]=some (h13.put C (.row [SL.av v',SL.av w] .own)):=o13.store1 (j:=0) (by show 0<2;omega) _;rw [hst,dA];simp only [k11,k10,r6,wC,cond_true,aC];have cp:=o13.put [SL.av v',SL.av w];have x13:=(x10.chgM c13 (fun A hA=>hA)).sub (X':=[]) (by simp);have x15:=x13.chgC o13 hC cp;have ch13:Chg [P,C] h0 h13:=(ch6.trans (c10.mono (by simp))).step c13 (fun A hA hl=>by have:=hv A hA;omega);have ch15:=ch13.trans (cp.mono (N:=[P,C]) (by simp));have w2_13:OwV (fun A=>h0.next≤A∧v'.blk≠some A) h13 w 10 ys:=by
   have a1:OwV (fun A=>(h0.next≤A∧v.blk≠some A)∧A<h10.next) h10 w 10 ys:=w2_10.weak fun A hA hl=>⟨hA,hl⟩;have a2:=a1.chg c13 (by intro A hA _ hm;exact hA.1.2 (by simpa using hm));exact a2.weak fun A hA _=>⟨hA.1.1,fun e=>by rcases hb13 A e with e | e;exact hA.1.2 e;omega⟩
  have hn13:=ch13.next;have cr15:cAn h0 (h13.put C (.row [SL.av v',SL.av w] .own)) C (xs++[(pD T pub at_ (σ2.1+1,none)).1]) ys:=⟨v',w,yA o13 _,w1_13.chg cp (by intro A hA _;simp;omega),w2_13.chg cp (by intro A hA _;simp;omega)⟩;obtain ⟨h21,e21,c21,pe⟩:=vAc (N:=N) x15 at_;simp only [dA,Nat.zero_add] at e21;refine ⟨h21,e21,ch15.trans (c21.mono (by simp)),pe,?_⟩;obtain ⟨v1,w1',o1,z1,z2⟩:=cr15;exact ⟨v1,w1',o1.chg c21 (by simp;omega),z1.chg c21 (by intro A hA _;simp;omega),z2.chg c21 (by intro A hA _;simp;omega)⟩
 | false=>
 rw [rD hb] at x6 ⊢;simp only [cond_false,Bool.false_eq_true,if_false];obtain ⟨h23,e23,c23,x23⟩:=iI (N:=N) hT x6 (w:=[102,110]) (by decide);rw [e23,aA];have cr23:=crStep c23 cr6;have ch23:=ch6.trans (c23.mono (N:=[P,C]) (by simp));have hn23:=ch23.next
 cases hb2:(jB T [102,110] σ2).1 with
 | true=>
  obtain ⟨v,w,o6,w1,w2⟩:=cr23;have hs:=(nH hb2).1;rw [hs] at x23;rw [hs];simp only [cond_true,if_true,dA,Nat.zero_add];have r6:h23.cell (C,1)=some (.slice w.a w.len w.cap w.sz):=o6.cell 1;simp only [r6,fA,uA];have hv:∀ A∈v.blk.toList,h0.next≤A∧A<h23.next:=fun A hA=>by have:=w1.ge A (by simpa using hA);exact ⟨this.1.1,this.2⟩
  have hw:∀ A∈w.blk.toList,h0.next≤A∧A<h23.next∧v.blk≠some A:=fun A hA=>by
   have:=w2.ge A (by simpa using hA);exact ⟨this.1.1,this.2,this.1.2⟩
  have y6:PC T P w.blk.toList h23 (σ2.1+1,none) st:=x23.free fun A hA=>by have:=hw A hA;omega
  obtain ⟨r,h10,e10,x10,c10,d10⟩:=nB4 (N:=N) hT hN y6 pub at_;rw [e10,aA];have o10:=o6.chg c10 (by simp;omega);have w1_10:=w1.chg c10 (by intro A hA _;simp;omega);have w2_10:=w2.chg c10 (by intro A hA _;simp;omega);have hn10:=c10.next;obtain ⟨w',h13,eA,w2_13,c13,hb13⟩:=dI (cs:=fux r) jAx (by decide) w2_10 (d10.weak fun A hA _=>⟨⟨by omega,fun e=>by have:=hv A (by simpa using e);omega⟩,fun e=>by have:=hw A (by simpa using e);omega⟩) rfl (fun A hA=>⟨by omega,fun e=>by have:=hv A (by simpa using e);omega⟩) (by omega);have eA':iB E 23 23 (.slice w.a w.len w.cap w.sz) (.slice (some (h10.next,0)) 1 1 10) (h10.push (.row [(.bool r.1),(.str r.2.1),(.slice r.2.2.1.a r.2.2.1.len r.2.2.1.cap r.2.2.1.sz),(.slice r.2.2.2.1.a r.2.2.2.1.len r.2.2.2.1.cap r.2.2.2.1.sz),(.int .i64 r.2.2.2.2.1),(.str r.2.2.2.2.2.1),(.slice r.2.2.2.2.2.2.1.a r.2.2.2.2.2.2.1.len r.2.2.2.2.2.2.1.cap r.2.2.2.2.2.2.1.sz),(.slice r.2.2.2.2.2.2.2.1.a r.2.2.2.2.2.2.2.1.len r.2.2.2.2.2.2.2.1.cap r.2.2.2.2.2.2.2.1.sz),(.slice r.2.2.2.2.2.2.2.2.1.a r.2.2.2.2.2.2.2.2.1.len r.2.2.2.2.2.2.2.2.1.cap r.2.2.2.2.2.2.2.2.1.sz),(.int .i64 r.2.2.2.2.2.2.2.2.2.1)] .own))=some (.slice w'.a w'.len w'.cap w'.sz,h13):=eA;rw [eA',lG,uA];have o13:=o10.chg c13 (fun hm=>by have:=hw C hm;omega);have o11:=o10.chg (qA h10 (.row (fux r) .own)) (by simp);have k11:(h10.push (.row [(.bool r.1),(.str r.2.1),(.slice r.2.2.1.a r.2.2.1.len r.2.2.1.cap r.2.2.1.sz),(.slice r.2.2.2.1.a r.2.2.2.1.len r.2.2.2.1.cap r.2.2.2.1.sz),(.int .i64 r.2.2.2.2.1),(.str r.2.2.2.2.2.1),(.slice r.2.2.2.2.2.2.1.a r.2.2.2.2.2.2.1.len r.2.2.2.2.2.2.1.cap r.2.2.2.2.2.2.1.sz),(.slice r.2.2.2.2.2.2.2.1.a r.2.2.2.2.2.2.2.1.len r.2.2.2.2.2.2.2.1.cap r.2.2.2.2.2.2.2.1.sz),(.slice r.2.2.2.2.2.2.2.2.1.a r.2.2.2.2.2.2.2.2.1.len r.2.2.2.2.2.2.2.2.1.cap r.2.2.2.2.2.2.2.2.1.sz),(.int .i64 r.2.2.2.2.2.2.2.2.2.1)] .own)).cell (C,1)=some (.slice w.a w.len w.cap w.sz):=o11.cell 1;have k10:h10.cell (C,1)=some (.slice w.a w.len w.cap w.sz):=o10.cell 1;have hst:h13.store (C,1) [.slice w'.a w'.len w'.cap w'.sz]=some (h13.put C (.row [SL.av v,SL.av w'] .own)):=o13.store1 (j:=1) (by show 1<2;omega) _;rw [hst,dA];simp only [k11,k10,r6,wC,cond_true,aC];have cp:=o13.put [SL.av v,SL.av w'];have x13:=(x10.chgM c13 (fun A hA=>hA)).sub (X':=[]) (by simp);have x15:=x13.chgC o13 hC cp;have ch13:Chg [P,C] h0 h13:=(ch23.trans (c10.mono (by simp))).step c13 (fun A hA hl=>by have:=hw A hA;omega);have ch15:=ch13.trans (cp.mono (N:=[P,C]) (by simp));have w1_13:OwV (fun A=>h0.next≤A∧w'.blk≠some A) h13 v 5 xs:=by
   have a1:OwV (fun A=>(h0.next≤A∧w.blk≠some A)∧A<h10.next) h10 v 5 xs:=w1_10.weak fun A hA hl=>⟨hA,hl⟩;have a2:=a1.chg c13 (by intro A hA _ hm;exact hA.1.2 (by simpa using hm));exact a2.weak fun A hA _=>⟨hA.1.1,fun e=>by rcases hb13 A e with e | e;exact hA.1.2 e;omega⟩
  have hn13:=ch13.next;have cr15:cAn h0 (h13.put C (.row [SL.av v,SL.av w'] .own)) C xs (ys++[(aH T pub at_ (σ2.1+1,none)).1]):=⟨v,w',yA o13 _,w1_13.chg cp (by intro A hA _;simp;omega),w2_13.chg cp (by intro A hA _;simp;omega)⟩;obtain ⟨h21,e21,c21,pe⟩:=vAc (N:=N) x15 at_;simp only [dA,Nat.zero_add] at e21;refine ⟨h21,e21,ch15.trans (c21.mono (by simp)),pe,?_⟩;obtain ⟨v1,w1',o1,z1,z2⟩:=cr15;exact ⟨v1,w1',o1.chg c21 (by simp;omega),z1.chg c21 (by intro A hA _;simp;omega),z2.chg c21 (by intro A hA _;simp;omega)⟩
 | false=>
  rw [rD hb2] at x23 ⊢;simp only [cond_false,Bool.false_eq_true,if_false];obtain ⟨h40,e40,c40,x40⟩:=uAj (N:=N) x23 (c:=21) (by decide);rw [e40,aA];obtain ⟨v,k3,hv⟩:=x40.pa.readE;refine ⟨h40,rfl,ch23.trans (c40.mono (by simp)),⟨⟨v,k3,?_⟩,fun he=>?_⟩,crStep c40 cr23⟩
  ·cases hh:(jE T 21 σ2).2 with
   | none=>rw [hh] at hv;exact hv
   | some q=>
    rw [hh] at hv;obtain ⟨A,g1,_,g3⟩:=hv;exact ⟨A,g1,g3⟩
  ·have:=pO T 21 σ2
   cases hh:(jE T 21 σ2).2 with
   | none=>rw [hh] at this;cases this
   | some q=>rw [hh] at he;cases he
end
end Qp
namespace Qp
def fB (T:List Tok):Nat→Nat→(List D×List D)×Er3
 | 0,i=>if (tk T i).1=0 then (([],[]),none) else (([],[]),oAg (jE T 5 (i,none)).2)
 | f+1,i=>if (tk T i).1=0 then (([],[]),none) else
  let z:=tE T (i,none)
  match z.e with
  | some q=>(([],[]),some q)
  | none=>let r:=fB T f z.i;((pA4 z.d []++r.1.1,qA4 z.d []++r.1.2),r.2)
def qO (T:List Tok):(List D×List D)×Er3:=
 let r:=fB T 256 0
 match r.2 with
 | some q=>(([],[]),some q)
 | none=>(r.1,none)
def rC (N:Nat) (s:Bs):(List D×List D)×Er3:=match jAj N s with
 | .inr a=>(([],[]),some (20,(a:Int),none))
 | .inl T=>qO T
theorem kAx (d:Option (Bool×D)) (xs:List D):pA4 d xs=xs++pA4 d []:=by
 unfold pA4;split <;> simp
theorem lAx (d:Option (Bool×D)) (ys:List D):qA4 d ys=ys++qA4 d []:=by
 unfold qA4;split <;> simp
theorem cAk (d:Option (Bool×D)) (xs:List D):(pA4 d xs).length≤xs.length+1:=by
 unfold pA4;split <;> simp
theorem dAk (d:Option (Bool×D)) (ys:List D):(qA4 d ys).length≤ys.length+1:=by
 unfold qA4;split <;> simp
section
variable {N:Nat} {T:List Tok} {P:Nat} {X:List Nat} {h:Heap} {σ:St} {st:Int}
theorem ErrW.eq {h:Heap} {v:AV} {e:Er3} (x:ErrW h v e) (k:Nat):cK E .eql 29 (.tmp k) (.const .nilIface) v AV.nilIface=some (.bool e.isNone):=by
 match e with
 | none=>rw [show v=AV.nilIface from x];exact eq_nil k
 | some (c,a,none)=>obtain ⟨A,h1,_⟩:=x;rw [h1];exact dQ k _
 | some (c,a,some b)=>obtain ⟨A,B,h1,_⟩:=x;rw [h1];exact dQ k _
theorem ErrW.ne {h:Heap} {v:AV} {e:Er3} (x:ErrW h v e) (k:Nat):cK E .neq 29 (.tmp k) (.const .nilIface) v AV.nilIface=some (.bool e.isSome):=by
 match e with
 | none=>rw [show v=AV.nilIface from x];exact ne_nil k
 | some (c,a,none)=>obtain ⟨A,h1,_⟩:=x;rw [h1];exact eQ k _
 | some (c,a,some b)=>obtain ⟨A,B,h1,_⟩:=x;rw [h1];exact eQ k _
theorem PE.of (x:PC T P X h σ st) (hx:σ.2.isSome=true):PE T P h σ.1 (oAg σ.2):=by
 obtain ⟨v,k3,hv⟩:=x.pa.readE;refine ⟨⟨v,k3,?_⟩,fun he=>?_⟩
 ·cases hh:σ.2 with
  | none=>rw [hh] at hv;exact hv
  | some q=>
   rw [hh] at hv;obtain ⟨A,g1,_,g3⟩:=hv;exact ⟨A,g1,g3⟩
 ·cases hh:σ.2 with
  | none=>rw [hh] at hx;cases hx
  | some q=>rw [hh] at he;cases he
theorem dAn (hT:Toks T) (hN:3000≤N) {h0:Heap} {C:Nat} {R:zJ2} (hC:C<P∧4≤C) (hP0:P<h0.next):∀ (f M:Nat) (h:Heap) (i:Nat) (st:Int) (xs ys:List D),f+1<M→f≤256→xs.length+f≤256→ys.length+f≤256→PC T P [] h (i,none) st→Chg [P,C] h0 h→cAn h0 h C xs ys→
  ∃ h' xs' ys',tAj N M R (some (C,0)) (some (P,0)) ((256-f:Nat):Int) h=some (.exit 0,(R,some (C,0),some (P,0),()),h')∧Chg [P,C] h0 h'∧cAn h0 h' C xs' ys'∧(∃ v,h'.cell (P,3)=some v∧ErrW h' v (fB T f i).2)∧((fB T f i).2=none→xs'=xs++(fB T f i).1.1∧ys'=ys++(fB T f i).1.2):=by
 intro f
 induction f with
 | zero=>
  intro M h i st xs ys hM hf hx hy x ch cr;obtain ⟨M,rfl⟩:∃ m,M=m+1:=⟨M-1,by omega⟩;rw [lS];unfold qU;obtain ⟨v,k3,hv⟩:=x.pa.readE;have hv:v=AV.nilIface:=hv;subst hv;simp only [dA,Nat.zero_add,k3,fA,bE,eq_nil,rB,cond_true];obtain ⟨h13,e13,c13⟩:=cN (N:=N) x.pa;rw [e13,aA];have x13:=x.chg c13;have ch13:=ch.trans (c13.mono (N:=[P,C]) (by simp));have crS:∀ {h1 h2:Heap},Chg [P] h1 h2→cAn h0 h1 C xs ys→cAn h0 h2 C xs ys:=by
   rintro h1 h2 c ⟨v,w,o,w1,w2⟩;exact ⟨v,w,o.chg c (by simp;omega),w1.chg c (by intro A hA _;simp;omega),w2.chg c (by intro A hA _;simp;omega)⟩
  have cr13:=crS (c13.mono (by simp)) cr;simp only [kAj,eqI,fB]
  by_cases q:(tk T i).1=0
  ·simp only [q,decide_true,Bool.not_true,cond_false,if_true]
   obtain ⟨v,k3,hv⟩:=x13.pa.readE;exact ⟨h13,xs,ys,rfl,ch13,cr13,⟨v,k3,hv⟩,fun _=>⟨by simp,by simp⟩⟩
  ·simp only [q,decide_false,Bool.not_false,cond_true,if_false,show decide (((256-0:Nat):Int)=256)=true from rfl]
   obtain ⟨h17,e17,c17,x17⟩:=uAj (N:=N) x13 (c:=5) (by decide);rw [e17,aA];have pe:=PE.of x17 (pO T 5 (i,none));exact ⟨h17,xs,ys,rfl,ch13.trans (c17.mono (by simp)),crS c17 cr13,pe.1,fun h=>by cases h⟩
 | succ f ih=>
  intro M h i st xs ys hM hf hx hy x ch cr;obtain ⟨M,rfl⟩:∃ m,M=m+1:=⟨M-1,by omega⟩;rw [lS];unfold qU;obtain ⟨v,k3,hv⟩:=x.pa.readE;have hv:v=AV.nilIface:=hv;subst hv;simp only [dA,Nat.zero_add,k3,fA,bE,eq_nil,rB,cond_true];obtain ⟨h13,e13,c13⟩:=cN (N:=N) x.pa;rw [e13,aA];have x13:=x.chg c13;have ch13:=ch.trans (c13.mono (N:=[P,C]) (by simp));have crS:∀ {h1 h2:Heap},Chg [P] h1 h2→cAn h0 h1 C xs ys→cAn h0 h2 C xs ys:=by
   rintro h1 h2 c ⟨v,w,o,w1,w2⟩;exact ⟨v,w,o.chg c (by simp;omega),w1.chg c (by intro A hA _;simp;omega),w2.chg c (by intro A hA _;simp;omega)⟩
  have cr13:=crS (c13.mono (by simp)) cr;simp only [kAj,eqI,fB]
  by_cases q:(tk T i).1=0
  ·simp only [q,decide_true,Bool.not_true,cond_false,if_true]
   obtain ⟨v,k3,hv⟩:=x13.pa.readE;exact ⟨h13,xs,ys,rfl,ch13,cr13,⟨v,k3,hv⟩,fun _=>⟨by simp,by simp⟩⟩
  ·have hne:decide (((256-(f+1):Nat):Int)=256)=false:=decide_eq_false (by omega)
   simp only [q,decide_false,Bool.not_false,cond_true,if_false,hne,cond_false];obtain ⟨h19,e19,ch19,pe,cr19⟩:=oBb (N:=N) hT hN x13 hC hP0 ch13 cr13 (by omega) (by omega);rw [e19,aA];rw [dC (by omega),show 256-(f+1)+1=256-f by omega];generalize tE T (i,none)=z at *
   cases he:z.e with
   | some q=>
    rw [he] at pe;obtain ⟨⟨v,k3,hv⟩,_⟩:=pe
    -- the loop ends at once
    obtain ⟨M,rfl⟩:∃ m,M=m+1:=⟨M-1,by omega⟩;rw [lS];unfold qU;simp only [dA,Nat.zero_add,k3,fA,bE,hv.eq 24,rB,Option.isNone_some,cond_false];exact ⟨h19,_,_,rfl,ch19,cr19,⟨v,k3,hv⟩,fun h=>by cases h⟩
   | none=>
    obtain ⟨st',x19⟩:=pe.2 he;have l1:=cAk z.d xs;have l2:=dAk z.d ys;obtain ⟨h',xs',ys',e',ch',cr',er',hres⟩:=ih M h19 z.i st' (pA4 z.d xs) (qA4 z.d ys) (by omega) (by omega) (by omega) (by omega) x19 ch19 cr19;refine ⟨h',xs',ys',e',ch',cr',er',fun h=>?_⟩;obtain ⟨h1,h2⟩:=hres h;rw [kAx] at h1;rw [lAx] at h2;exact ⟨by rw [h1,List.append_assoc],by rw [h2,List.append_assoc]⟩
abbrev CrV:=SL×SL×Unit
theorem uBj {β:Type} (r:CrV) (K:CrV→Option β):iA (.val zK) (some (.agg [SL.av r.1,SL.av r.2.1])) K=K r:=by
 obtain ⟨x1,x2,_⟩:=r;simp [SL.av]
theorem nY {H:Heap} {A:Nat} {v w:SL} (o:H.own A [SL.av v,SL.av w]) {β:Type} (K:CrV→Option β):iA (.val zK) (H.cells (A,0) 2) K=K (v,w,()):=by
 have:H.cells (A,0) 2=some (.agg [SL.av v,SL.av w]):=o.cells (j:=0) (m:=2) (Nat.le_refl _)
 rw [this,uBj (v,w,())]
theorem wAc {s:Bs} (hs:s.length≤1000000) (hN:s.length<N) (hN2:3000≤N) (hp:Qw.pinned h=true) (h4:4≤h.next) :
  ∃ v w e h',f27 N s h=some (((v,w,()),e,()),h')∧Chg [] h h'∧Sl h' (fun A=>h.next≤A) v (rC N s).1.1∧Sl h' (fun A=>h.next≤A) w (rC N s).1.2∧ErrW h' e (rC N s).2:=by
 unfold f27 rC;have o1:=vA h [SL.av sl0,SL.av sl0];have c1:=qA h (.row [SL.av sl0,SL.av sl0] .own);have e1:h.push (.row [(.slice none 0 0 0),(.slice none 0 0 0)] .own)=h.push (.row [SL.av sl0,SL.av sl0] .own):=rfl;have n1:(h.push (.row [SL.av sl0,SL.av sl0] .own)).next=h.next+1:=rfl;rw [e1];generalize h.push (.row [SL.av sl0,SL.av sl0] .own)=h1 at *;dsimp only;obtain ⟨r2,h3,e3,c3,p3⟩:=cAz (by omega) hN (by omega) h1;rw [e3,aA];have o3:=o1.chg c3 (by simp);have c03:=c1.trans c3;have hn3:=c3.next
 cases hl:jAj N s with
 | inr a=>
  rw [hl] at p3;obtain ⟨F,f1,f2⟩:=p3;rw [f1,eQ];simp only [fA,rB,cond_true];have hne:=lAr o3 f2 (by show (2:Nat)≠3;decide);have cp:=o3.put [SL.av sl0,SL.av sl0];have hst:h3.store (h.next,0) [(.slice none 0 0 0),(.slice none 0 0 0)]=some (h3.put h.next (.row [SL.av sl0,SL.av sl0] .own)):=o3.store rfl;rw [hst,dA,nY (yA o3 _)];exact ⟨sl0,sl0,_,_,rfl,c03.put (.inr (Nat.le_refl _)) _,Sl.nil _ _ _,Sl.nil _ _ _,F,rfl,f2.chg cp (by simpa using fun e=>hne e.symm)⟩
 | inl T=>
  rw [hl] at p3;obtain ⟨pe,po,pl⟩:=p3;obtain ⟨hT,hT0⟩:=oAc (by omega) hl (by omega);rw [pe,ne_nil];simp only [fA,rB,cond_false];have sl3:=po.sl;have hz:r2.1.sz=3:=by
   rcases po with ⟨_,_,_,h4⟩ | ⟨A,cs,st',vs,_,h2,_⟩
   ·have:T.length=0:=by rw [← List.length_map (f:=iAc),h4];rfl
    omega
   ·exact h2
  have oC:=vA h3 [SL.av sl0,SL.av sl0];have cC:=qA h3 (.row [SL.av sl0,SL.av sl0] .own);have eC:h3.push (.row [(.slice none 0 0 0),(.slice none 0 0 0)] .own)=h3.push (.row [SL.av sl0,SL.av sl0] .own):=rfl;have nC:(h3.push (.row [SL.av sl0,SL.av sl0] .own)).next=h3.next+1:=rfl;rw [eC];have o7:=o3.chg cC (by simp);have sl7:=(sl3.weak (W:=fun A=>A<h3.next) (fun C _ hlt=>hlt)).chg cC (by simp);generalize h3.push (.row [SL.av sl0,SL.av sl0] .own)=h7 at *;have oP:=vA h7 [SL.av r2.1,.int .i64 0,.int .i64 0,AV.nilIface];have cP:=qA h7 (.row [SL.av r2.1,.int .i64 0,.int .i64 0,AV.nilIface] .own);have eP:h7.push (.row [(.slice r2.1.a r2.1.len r2.1.cap r2.1.sz),(.int .i64 0),(.int .i64 0),AV.nilIface] .own)=h7.push (.row [SL.av r2.1,.int .i64 0,.int .i64 0,AV.nilIface] .own):=rfl;have nP:(h7.push (.row [SL.av r2.1,.int .i64 0,.int .i64 0,AV.nilIface] .own)).next=h7.next+1:=rfl;rw [eP];have oC8:=oC.chg cP (by simp);have o8:=o7.chg cP (by simp);have c08:=(c03.trans cC).trans cP;have p8:=vJ c08 (by simp) h4 hp;have sl8:=(sl7.weak (W:=fun A=>A<h7.next) (fun A hA _=>by omega)).chg cP (by simp);generalize h7.push (.row [SL.av r2.1,.int .i64 0,.int .i64 0,AV.nilIface] .own)=h8 at *;have x8:PC T h7.next [] h8 (0,none) 0:=⟨⟨⟨r2.1,AV.nilIface,oP,sl8,hz,rfl⟩,hT0,by simp⟩,p8,by omega⟩;have cr8:cAn h8 h8 h3.next [] []:=⟨sl0,sl0,oC8,OwV.nil _ _ _ _,OwV.nil _ _ _ _⟩;obtain ⟨h23,xs',ys',e23,c23,⟨v,w,o23,w1,w2⟩,⟨er,k23,her⟩,hres⟩:=dAn (N:=N) hT hN2 (R:=some (h.next,0)) (C:=h3.next) (P:=h7.next) (by omega) (by omega) 256 N h8 0 0 [] [] (by omega) (Nat.le_refl _) (by simp) (by simp) x8 (Chg.refl _ _) cr8;rw [show ((256-256:Nat):Int)=0 from rfl] at e23;rw [e23];simp only [uB,dA,Nat.zero_add,k23,fA,bE,her.ne 43,rB,qO];have o23':=o8.chg c23 (by simp;omega);have c023:Chg [] h h23:=c08.step c23 (fun A hA hl=>by simp only [List.mem_cons,List.not_mem_nil,or_false] at hA;omega);have hn8:=c23.next;have herC:∀ {hh:Heap} {vs:List AV},Chg [h.next] h23 hh→ErrW hh er (fB T 256 0).2:=fun c=>her.chg c fun A hA=>by
   rw [List.mem_singleton] at hA;subst hA;exact ⟨_,_,o23',fun n=>by simp [SL.av]⟩
  cases he:(fB T 256 0).2 with
  | some q=>
   simp only [Option.isSome_some,cond_true];have hst:h23.store (h.next,0) [(.slice none 0 0 0),(.slice none 0 0 0)]=some (h23.put h.next (.row [SL.av sl0,SL.av sl0] .own)):=o23'.store rfl;rw [hst,dA];have cp:=o23'.put [SL.av sl0,SL.av sl0];have hPP:∀ x,h23.cell (h7.next,3)=some x→(h23.put h.next (.row [SL.av sl0,SL.av sl0] .own)).cell (h7.next,3)=some x:=by
    intro x hx;rw [Heap.cell_g,cp.g h7.next (by have:=c23.next;omega) (by simp;omega),← Heap.cell_g];exact hx
   rw [hPP _ k23];simp only [wC,cond_true,aC];rw [nY (yA o23' _)];exact ⟨sl0,sl0,er,_,rfl,c023.put (.inr (Nat.le_refl _)) _,Sl.nil _ _ _,Sl.nil _ _ _,by rw [← he];exact herC (vs:=[]) cp⟩
  | none=>
   obtain ⟨hx1,hy1⟩:=hres he;rw [List.nil_append] at hx1 hy1;subst hx1;subst hy1;simp only [Option.isSome_none,cond_false];rw [nY o23];have hst:h23.store (h.next,0) [(.slice v.a v.len v.cap v.sz),(.slice w.a w.len w.cap w.sz)]=some (h23.put h.next (.row [SL.av v,SL.av w] .own)):=o23'.store rfl;rw [hst,dA,nY (yA o23' _)];have cp:=o23'.put [SL.av v,SL.av w];refine ⟨v,w,AV.nilIface,_,rfl,c023.put (.inr (Nat.le_refl _)) _,?_,?_,rfl⟩
   ·exact (w1.sl.chg cp (fun A hA=>by have:=hA.1;simp;omega)).weak fun A hA _=>by have:=hA.1;omega
   ·exact (w2.sl.chg cp (fun A hA=>by have:=hA.1;simp;omega)).weak fun A hA _=>by have:=hA.1;omega
end
end Qp
namespace Qp
structure Cut (T' T:List Tok) (E:Nat) (Bd:Int×Int→Prop):Prop where
 k:(tk T' E).1=0
 lt:∀ i,i<E→tk T' i=tk T i
 bad:Bd (21,((tk T' E).2.2:Int))
def bnd {σ α β:Type} (f:σ→α×σ) (g:α→σ→β×σ):σ→β×σ:=fun s=>g (f s).1 (f s).2
def eE {σ α β:Type} (h:α→β) (f:σ→α×σ):σ→β×σ:=fun s=>(h (f s).1,(f s).2)
def mG {σ α:Type} (x:α):σ→α×σ:=fun s=>(x,s)
section
variable {α β γ:Type} {σ:Type} (st:σ→St) (inv:σ→Prop) (E:Nat) (Bd:Int×Int→Prop)
def ErrB (s:σ):Prop:=∃ j e,st s=(j,some e)∧Bd e
def mAx (F:σ→α×σ):Prop:=∀ s,(st (F s).2).2.isSome=true
def AtE (s:σ):Prop:=st s=(E,none)∧inv s
def RA (F' F:σ→α×σ) (s:σ):Prop:=F' s=F s∧(st (F s).2).2=none∧(st (F s).2).1≤E∧inv (F s).2
def RB (F' F:σ→α×σ) (s:σ):Prop:=∃ j e,st (F' s).2=(j,some e)∧((st (F s).2).2.isSome=true∨Bd e)
structure GD (F' F:σ→α×σ):Prop where
 e':∀ s,(st s).2.isSome=true→st (F' s).2=st s
 e:∀ s,(st s).2.isSome=true→st (F s).2=st s
 c:∀ s,AtE st inv E s→AtE st inv E (F' s).2∨ErrB st Bd (F' s).2∨((st (F' s).2).2.isSome=true∧mAx st F)
 a:∀ s,(st s).2=none→(st s).1<E→inv s→RA st inv E F' F s∨RB st Bd F' F s∨AtE st inv E (F' s).2
structure G (F' F:σ→α×σ):Prop extends GD st inv E Bd F' F where
 c1:∀ s,AtE st inv E s→AtE st inv E (F' s).2∨ErrB st Bd (F' s).2
def TE (F':σ→α×σ):Prop:=∀ s,st s=(E,none)→ErrB st Bd (F' s).2
def SE (F' F:σ→α×σ):Prop:=∀ s,(st s).2=none→(st s).1<E→inv s→RA st inv E F' F s∨RB st Bd F' F s
end
section
variable {α β γ:Type} {σ:Type} {st:σ→St} {inv:σ→Prop} {E:Nat} {Bd:Int×Int→Prop}
theorem ErrB.some {s:σ} (h:ErrB st Bd s):(st s).2.isSome=true:=by
 obtain ⟨j,e,h1,_⟩:=h;rw [h1];rfl
theorem rM {τ:St} (h:τ.2.isSome=true):∃ j e,τ=(j,some e):=by
 obtain ⟨j,o⟩:=τ
 cases o with
 | none=>cases h
 | some e=>exact ⟨j,e,rfl⟩
theorem GD.dead_bnd {f:σ→α×σ} {g:α→σ→β×σ} (hf:mAx st f) (hg:∀ x s,(st s).2.isSome=true→st (g x s).2=st s):mAx st (bnd f g):=fun s=>by
 show (st (g (f s).1 (f s).2).2).2.isSome=true;rw [hg _ _ (hf s)];exact hf s
theorem G.mk' {F' F:σ→α×σ} (e':∀ s,(st s).2.isSome=true→st (F' s).2=st s) (e:∀ s,(st s).2.isSome=true→st (F s).2=st s) (c:∀ s,AtE st inv E s→AtE st inv E (F' s).2∨ErrB st Bd (F' s).2) (a:∀ s,(st s).2=none→(st s).1<E→inv s→RA st inv E F' F s∨RB st Bd F' F s∨AtE st inv E (F' s).2):G st inv E Bd F' F:=
 ⟨⟨e',e,fun s h=>(c s h).elim .inl fun h=>.inr (.inl h),a⟩,c⟩
theorem kI (x:α):G st inv E Bd (mG x) (mG x):=G.mk' (fun _ _=>rfl) (fun _ _=>rfl) (fun s h=>.inl h) (fun s h1 h2 h3=>.inl ⟨rfl,h1,Nat.le_of_lt h2,h3⟩)
theorem RB.of_err {F' F:σ→α×σ} {s:σ} (h:ErrB st Bd (F' s).2):RB st Bd F' F s:=by
 obtain ⟨j,e,h1,h2⟩:=h;exact ⟨j,e,h1,.inr h2⟩
theorem RB.of_dead {F' F:σ→α×σ} {s:σ} (h:(st (F' s).2).2.isSome=true) (hd:(st (F s).2).2.isSome=true):RB st Bd F' F s:=by
 obtain ⟨j,e,h1⟩:=rM h;exact ⟨j,e,h1,.inl hd⟩
theorem pB4 {f' f:σ→α×σ} {g' g:α→σ→β×σ} (hf:GD st inv E Bd f' f) (hg:∀ x,GD st inv E Bd (g' x) (g x)) (hd:(∀ x,G st inv E Bd (g' x) (g x))∨(∀ x y,mAx st (g x)→mAx st (g y))) (s:σ) (h1:(st s).2=none) (h2:(st s).1<E) (h3:inv s) :
  RA st inv E (bnd f' g') (bnd f g) s∨RB st Bd (bnd f' g') (bnd f g) s∨AtE st inv E (bnd f' g' s).2:=by
 rcases hf.a s h1 h2 h3 with ⟨q1,q2,q3,q4⟩ | ⟨j,e,q1,q2⟩ | q
 ·have ee:bnd f' g' s=g' (f s).1 (f s).2:=by unfold bnd;rw [q1]
  by_cases q5:(st (f s).2).1<E
  ·rcases (hg (f s).1).a (f s).2 q2 q5 q4 with ⟨r1,r2⟩ | ⟨j,e,r1,r2⟩ | r
   ·exact .inl ⟨by rw [ee];exact r1,r2⟩
   ·exact .inr (.inl ⟨j,e,by rw [ee];exact r1,r2⟩)
   ·exact .inr (.inr (by rw [ee];exact r))
  ·have hE:AtE st inv E (f s).2:=⟨Prod.ext (by show _=E;omega) q2,q4⟩
   rcases (hg (f s).1).c (f s).2 hE with r | r | ⟨r,rd⟩
   ·exact .inr (.inr (by rw [ee];exact r))
   ·exact .inr (.inl (RB.of_err (by rw [ee];exact r)))
   ·exact .inr (.inl (RB.of_dead (by rw [ee];exact r) (rd _)))
 ·have r1:=(hg (f' s).1).e' (f' s).2 (by rw [q1];rfl)
  refine .inr (.inl ⟨j,e,by show st (g' (f' s).1 (f' s).2).2=_;rw [r1,q1],?_⟩);rcases q2 with q2 | q2
  ·left;show (st (g (f s).1 (f s).2).2).2.isSome=true
   rw [(hg (f s).1).e (f s).2 q2];exact q2
  ·exact .inr q2
 ·rcases hd with hd | hd
  ·rcases (hd (f' s).1).c1 (f' s).2 q with r | r
   ·exact .inr (.inr r)
   ·exact .inr (.inl (RB.of_err r))
  ·rcases (hg (f' s).1).c (f' s).2 q with r | r | ⟨r,rd⟩
   ·exact .inr (.inr r)
   ·exact .inr (.inl (RB.of_err r))
   ·exact .inr (.inl (RB.of_dead r (hd _ _ rd _)))
theorem eAn {f:σ→α×σ} {g:α→σ→β×σ} (hf:∀ s,(st s).2.isSome=true→st (f s).2=st s) (hg:∀ x s,(st s).2.isSome=true→st (g x s).2=st s) (s:σ) (h:(st s).2.isSome=true):st (bnd f g s).2=st s:=by
 show st (g (f s).1 (f s).2).2=st s;rw [hg _ _ (by rw [hf s h];exact h),hf s h]
theorem G.bnd {f' f:σ→α×σ} {g' g:α→σ→β×σ} (hf:G st inv E Bd f' f) (hg:∀ x,G st inv E Bd (g' x) (g x)):G st inv E Bd (bnd f' g') (bnd f g):=
 G.mk' (eAn hf.e' fun x=>(hg x).e') (eAn hf.e fun x=>(hg x).e) (fun s h=>by
  rcases hf.c1 s h with q | ⟨j,e,q1,q2⟩
  ·exact (hg (f' s).1).c1 _ q
  ·exact .inr ⟨j,e,by show st (g' (f' s).1 (f' s).2).2=_;rw [(hg (f' s).1).e' _ (by rw [q1];rfl),q1],q2⟩)
  (pB4 hf.toGD (fun x=>(hg x).toGD) (.inl hg))
theorem GD.bndG {f' f:σ→α×σ} {g' g:α→σ→β×σ} (hf:GD st inv E Bd f' f) (hg:∀ x,G st inv E Bd (g' x) (g x)):GD st inv E Bd (Qp.bnd f' g') (Qp.bnd f g):=
 ⟨eAn hf.e' fun x=>(hg x).e',eAn hf.e fun x=>(hg x).e,fun s h=>by
  rcases hf.c s h with q | ⟨j,e,q1,q2⟩ | ⟨q1,q2⟩
  ·exact ((hg (f' s).1).c1 _ q).elim .inl fun h=>.inr (.inl h)
  ·exact .inr (.inl ⟨j,e,by show st (g' (f' s).1 (f' s).2).2=_;rw [(hg (f' s).1).e' _ (by rw [q1];rfl),q1],q2⟩)
  ·exact .inr (.inr ⟨by show (st (g' (f' s).1 (f' s).2).2).2.isSome=true;rw [(hg (f' s).1).e' _ q1];exact q1,GD.dead_bnd q2 fun x=>(hg x).e⟩),
  pB4 hf (fun x=>(hg x).toGD) (.inl hg)⟩
theorem GD.bndD {f' f:σ→α×σ} {g' g:α→σ→β×σ} (hf:GD st inv E Bd f' f) (hg:∀ x,GD st inv E Bd (g' x) (g x)) (hd:∀ x y,mAx st (g x)→mAx st (g y)):GD st inv E Bd (Qp.bnd f' g') (Qp.bnd f g):=
 ⟨eAn hf.e' fun x=>(hg x).e',eAn hf.e fun x=>(hg x).e,fun s h=>by
  rcases hf.c s h with q | ⟨j,e,q1,q2⟩ | ⟨q1,q2⟩
  ·rcases (hg (f' s).1).c _ q with r | r | ⟨r,rd⟩
   ·exact .inl r
   ·exact .inr (.inl r)
   ·exact .inr (.inr ⟨r,fun s=>hd _ _ rd _⟩)
  ·exact .inr (.inl ⟨j,e,by show st (g' (f' s).1 (f' s).2).2=_;rw [(hg (f' s).1).e' _ (by rw [q1];rfl),q1],q2⟩)
  ·exact .inr (.inr ⟨by show (st (g' (f' s).1 (f' s).2).2).2.isSome=true;rw [(hg (f' s).1).e' _ q1];exact q1,GD.dead_bnd q2 fun x=>(hg x).e⟩),
  pB4 hf hg (.inr hd)⟩
theorem G.map {f' f:σ→α×σ} (hf:G st inv E Bd f' f) (h:α→β):G st inv E Bd (eE h f') (eE h f):=G.bnd (g':=fun x=>mG (h x)) (g:=fun x=>mG (h x)) hf fun x=>kI _
theorem GD.map {f' f:σ→α×σ} (hf:GD st inv E Bd f' f) (h:α→β):GD st inv E Bd (eE h f') (eE h f):=GD.bndG (g':=fun x=>mG (h x)) (g:=fun x=>mG (h x)) hf fun x=>kI _
theorem GD.seq {f' f:σ→α×σ} {g' g:σ→β×σ} (hf:GD st inv E Bd f' f) (hg:GD st inv E Bd g' g) (h:α→β→γ):GD st inv E Bd (Qp.bnd f' fun x=>eE (h x) g') (Qp.bnd f fun x=>eE (h x) g):=
 GD.bndD hf (fun x=>hg.map (h x)) fun x y hd=>hd
theorem TE.left {f':σ→α×σ} {g':α→σ→β×σ} (hf:TE st E Bd f') (hg:∀ x s,(st s).2.isSome=true→st (g' x s).2=st s):TE st E Bd (bnd f' g'):=fun s h=>by
 obtain ⟨j,e,q1,q2⟩:=hf s h;exact ⟨j,e,by show st (g' (f' s).1 (f' s).2).2=_;rw [hg _ _ (by rw [q1];rfl),q1],q2⟩
theorem TE.right {f' f:σ→α×σ} {g':α→σ→β×σ} (hi:∀ s,inv s) (hf:G st inv E Bd f' f) (ht:∀ x,TE st E Bd (g' x)) (hg:∀ x s,(st s).2.isSome=true→st (g' x s).2=st s):TE st E Bd (bnd f' g'):=fun s h=>by
 rcases hf.c1 s ⟨h,hi s⟩ with q | ⟨j,e,q1,q2⟩
 ·exact ht _ _ q.1
 ·exact ⟨j,e,by show st (g' (f' s).1 (f' s).2).2=_;rw [hg _ _ (by rw [q1];rfl),q1],q2⟩
theorem SE.bnd {f' f:σ→α×σ} {g' g:α→σ→β×σ} (hf:G st inv E Bd f' f) (hg:∀ x,G st inv E Bd (g' x) (g x)) (hs:∀ x,SE st inv E Bd (g' x) (g x)) (ht:∀ x,TE st E Bd (g' x)):SE st inv E Bd (Qp.bnd f' g') (Qp.bnd f g):=fun s h1 h2 h3=>by
 rcases hf.a s h1 h2 h3 with ⟨q1,q2,q3,q4⟩ | ⟨j,e,q1,q2⟩ | q
 ·have ee:Qp.bnd f' g' s=g' (f s).1 (f s).2:=by unfold Qp.bnd;rw [q1]
  by_cases q5:(st (f s).2).1<E
  ·rcases hs (f s).1 (f s).2 q2 q5 q4 with ⟨r1,r2⟩ | ⟨j,e,r1,r2⟩
   ·exact .inl ⟨by rw [ee];exact r1,r2⟩
   ·exact .inr ⟨j,e,by rw [ee];exact r1,r2⟩
  ·exact .inr (RB.of_err (by rw [ee];exact ht _ _ (Prod.ext (by show _=E;omega) q2)))
 ·have r1:=(hg (f' s).1).e' (f' s).2 (by rw [q1];rfl)
  refine .inr ⟨j,e,by show st (g' (f' s).1 (f' s).2).2=_;rw [r1,q1],?_⟩;rcases q2 with q2 | q2
  ·left;show (st (g (f s).1 (f s).2).2).2.isSome=true
   rw [(hg (f s).1).e (f s).2 q2];exact q2
  ·exact .inr q2
 ·exact .inr (RB.of_err (ht _ _ q.1))
theorem SE.map {f' f:σ→α×σ} (hs:SE st inv E Bd f' f) (h:α→β):SE st inv E Bd (eE h f') (eE h f):=fun s h1 h2 h3=>by
 rcases hs s h1 h2 h3 with ⟨q1,q2⟩ | ⟨j,e,q1,q2⟩
 ·exact .inl ⟨by unfold eE;rw [q1],q2⟩
 ·exact .inr ⟨j,e,q1,q2⟩
theorem TE.map {f':σ→α×σ} (hs:TE st E Bd f') (h:α→β):TE st E Bd (eE h f'):=fun s q=>hs s q
end
section
variable {T' T:List Tok} {E:Nat} {Bd:Int×Int→Prop} {α:Type}
abbrev Gt (E:Nat) (Bd:Int×Int→Prop) (F' F:St→α×St):Prop:=G id (fun _=>True) E Bd F' F
abbrev GDt (E:Nat) (Bd:Int×Int→Prop) (F' F:St→α×St):Prop:=GD id (fun _=>True) E Bd F' F
theorem rAz {F:St→α×St} (h:∀ i e,(F (i,some e)).2=(i,some e)):∀ s:St,(id s).2.isSome=true→id (F s).2=id s:=fun s q=>by
 obtain ⟨j,e,rfl⟩:=rM q;exact h j e
theorem G.of {F' F:St→α×St} (e':∀ i e,(F' (i,some e)).2=(i,some e)) (e:∀ i e,(F (i,some e)).2=(i,some e)) (c:(F' (E,none)).2=(E,none)∨∃ j e,(F' (E,none)).2=(j,some e)∧Bd e)
  (a:∀ i,i<E→(F' (i,none)=F (i,none)∧(F (i,none)).2.2=none∧(F (i,none)).2.1≤E)∨(∃ j e,(F' (i,none)).2=(j,some e)∧((F (i,none)).2.2.isSome=true∨Bd e))∨(F' (i,none)).2=(E,none)):Gt E Bd F' F:=
 G.mk' (rAz e') (rAz e) (fun s h=>by
  obtain ⟨h,_⟩:=h;have h:s=(E,none):=h;subst h;exact c.elim (fun h=>.inl ⟨h,trivial⟩) .inr) (fun s h1 h2 _=>by
  obtain ⟨i,o⟩:=s;have h1:o=none:=h1;subst h1;rcases a i h2 with ⟨q1,q2,q3⟩ | q | q
  ·exact .inl ⟨q1,q2,q3,trivial⟩
  ·exact .inr (.inl q)
  ·exact .inr (.inr ⟨q,trivial⟩))
theorem Cut.is (hc:Cut T' T E Bd) {i:Nat} (h:i<E) (w:Bs):isS T' w i=isS T w i:=by unfold isS;rw [hc.lt i h]
theorem nAx (hc:Cut T' T E Bd) (w:Bs):Gt E Bd (jB T' w) (jB T w):=G.of (fun i e=>by rw [eG]) (fun i e=>by rw [eG]) (.inl (by rw [uF hc.k])) fun i h=>by
 simp only [jB,hc.is h]
 cases isS T w i with
 | true=>exact .inl ⟨trivial,by simp,by simp;omega⟩
 | false=>exact .inl ⟨trivial,by simp,by simp;omega⟩
theorem tA8 {T:List Tok} (w:Bs) (i:Nat):uC T w (i,none)=if isS T w i=true then (i+1,none) else (i,some (21,((tk T i).2.2:Int))):=by
 by_cases h:isS T w i=true <;> simp [uC,jB,jE,h]
theorem lI (hc:Cut T' T E Bd) (k:Int) (hk:k≠0):Gt E Bd (pB T' k) (pB T k):=by
 refine G.of (fun i e=>by rw [vU]) (fun i e=>by rw [vU]) (.inr ⟨E,_,?_,hc.bad⟩) fun i h=>?_
 ·have:¬ (0:Int)=k:=fun h=>hk h.symm
  simp [pB,hc.k,this,jE]
 ·simp only [pB,hc.lt i h,jE]
  by_cases q:(tk T i).1=k
  ·simp only [q,if_true];exact .inl ⟨trivial,trivial,h⟩
  ·simp only [q,if_false];exact .inr (.inl ⟨_,_,rfl,.inl rfl⟩)
def mD (T:List Tok) (w:Bs):St→Unit×St:=fun σ=>((),uC T w σ)
theorem jG (hc:Cut T' T E Bd) (w:Bs):Gt E Bd (mD T' w) (mD T w):=by
 refine G.of (fun i e=>by unfold mD;rw [cF]) (fun i e=>by unfold mD;rw [cF]) (.inr ⟨E,_,?_,hc.bad⟩) fun i h=>?_
 ·simp only [mD,uC,uF hc.k,Bool.false_eq_true,if_false,jE]
 ·simp only [mD,tA8,hc.is h,hc.lt i h]
  cases isS T w i with
  | true=>exact .inl ⟨trivial,by simp,by simp;omega⟩
  | false=>exact .inr (.inl ⟨_,_,rfl,.inl rfl⟩)
theorem yAc (hc:Cut T' T E Bd) (w:Bs):TE id E Bd (mD T' w):=fun s h=>by
 have h:s=(E,none):=h;subst h;refine ⟨E,_,?_,hc.bad⟩;simp only [mD,uC,uF hc.k,Bool.false_eq_true,if_false,jE,id]
theorem pBb (hc:Cut T' T E Bd) (w:Bs):SE id (fun _=>True) E Bd (mD T' w) (mD T w):=fun s h1 h2 _=>by
 obtain ⟨i,o⟩:=s;have h1:o=none:=h1;subst h1;have h2:i<E:=h2;simp only [mD,RA,RB,tA8,hc.is h2,hc.lt i h2,id]
 cases isS T w i with
 | true=>exact .inl ⟨trivial,by simp,by simp;omega,trivial⟩
 | false=>exact .inr ⟨_,_,rfl,.inl rfl⟩
def wW (T:List Tok) (c:Int) (x:α):St→α×St:=fun σ=>(x,jE T c σ)
theorem wU (c:Int) (x:α):mAx id (wW T c x):=fun s=>by
 obtain ⟨i,o⟩:=s;cases o <;> rfl
theorem uA8 (hc:Cut T' T E Bd) (c:Int) (x:α):GDt E Bd (wW T' c x) (wW T c x):=
 ⟨rAz fun i e=>rfl,rAz fun i e=>rfl,fun s h=>.inr (.inr ⟨wU c x s,wU c x⟩),fun s h1 h2 _=>.inr (.inl (RB.of_dead (wU c x s) (wU c x s)))⟩
def yF (T:List Tok) (w:Bs) (Y X:St→α×St):St→α×St:=fun σ=>if (jB T w σ).1=true then Y (jB T w σ).2 else X (jB T w σ).2
theorem tAz {w:Bs} {Y X:St→α×St} (hX:∀ s:St,(id s).2.isSome=true→id (X s).2=id s):∀ s:St,(id s).2.isSome=true→id (yF T w Y X s).2=id s:=fun s h=>by
 obtain ⟨j,e,rfl⟩:=rM h;simp only [yF,eG,Bool.false_eq_true,if_false];exact hX _ h
theorem vA8 {T:List Tok} {w:Bs} {Y X:St→α×St} {i:Nat}:yF T w Y X (i,none)=if isS T w i=true then Y (i+1,none) else X (i,none):=by
 by_cases h:isS T w i=true <;> simp [yF,jB,h]
theorem mF (hc:Cut T' T E Bd) (w:Bs) {Y' Y X' X:St→α×St} (hY:GDt E Bd Y' Y) (hX:Gt E Bd X' X):Gt E Bd (yF T' w Y' X') (yF T w Y X):=by
 refine G.mk' (tAz hX.e') (tAz hX.e) (fun s h=>?_) (fun s h1 h2 _=>?_)
 ·have h':=h
  obtain ⟨h,_⟩:=h';have h:s=(E,none):=h;subst h
  have:yF T' w Y' X' (E,none)=X' (E,none):=by simp only [yF,uF hc.k,Bool.false_eq_true,if_false]
  rw [this];exact hX.c1 _ ⟨rfl,trivial⟩
 ·obtain ⟨i,o⟩:=s
  have h1:o=none:=h1;subst h1;have h2:i<E:=h2;unfold RA RB;rw [vA8,vA8,hc.is h2]
  cases isS T w i with
  | false=>exact hX.a (i,none) rfl h2 trivial
  | true=>
   simp only [if_true]
   by_cases q:i+1<E
   ·exact hY.a (i+1,none) rfl q trivial
   ·have:i+1=E:=by omega
    rw [this];rcases hY.c (E,none) ⟨rfl,trivial⟩ with r | ⟨j,e,r1,r2⟩ | ⟨r,rd⟩
    ·exact .inr (.inr r)
    ·exact .inr (.inl ⟨j,e,r1,.inr r2⟩)
    ·obtain ⟨j,e,r1⟩:=rM r
     exact .inr (.inl ⟨j,e,r1,.inl (rd _)⟩)
theorem qBb (hc:Cut T' T E Bd) (w:Bs) {y:α} {X' X:St→α×St} (hX:SE id (fun _=>True) E Bd X' X):SE id (fun _=>True) E Bd (yF T' w (mG y) X') (yF T w (mG y) X):=fun s h1 h2 _=>by
 obtain ⟨i,o⟩:=s;have h1:o=none:=h1;subst h1;have h2:i<E:=h2;unfold RA RB;rw [vA8,vA8,hc.is h2]
 cases isS T w i with
 | false=>exact hX (i,none) rfl h2 trivial
 | true=>exact .inl ⟨rfl,rfl,h2,trivial⟩
theorem rBb (hc:Cut T' T E Bd) (w:Bs) {Y' X':St→α×St} (hX:TE id E Bd X'):TE id E Bd (yF T' w Y' X'):=fun s h=>by
 have h':s=(E,none):=h;subst h'
 have:yF T' w Y' X' (E,none)=X' (E,none):=by simp only [yF,uF hc.k,Bool.false_eq_true,if_false]
 rw [this];exact hX _ h
theorem uAz (hc:Cut T' T E Bd) (p:Tok→Bool) {Y' Y X' X:St→α×St} (hY:Gt E Bd Y' Y) (hX:Gt E Bd X' X):Gt E Bd (fun σ=>if p (tk T' σ.1)=true then Y' σ else X' σ) (fun σ=>if p (tk T σ.1)=true then Y σ else X σ):=by
 refine G.mk' (fun s h=>?_) (fun s h=>?_) (fun s h=>?_) (fun s h1 h2 _=>?_)
 ·split
  ·exact hY.e' s h
  ·exact hX.e' s h
 ·split
  ·exact hY.e s h
  ·exact hX.e s h
 ·split
  ·exact hY.c1 s h
  ·exact hX.c1 s h
 ·have h2':s.1<E:=h2
  unfold RA RB;simp only [hc.lt _ h2']
  split
  ·exact hY.a s h1 h2 trivial
  ·exact hX.a s h1 h2 trivial
end
end Qp
namespace Qp
section
variable {T' T:List Tok} {E:Nat} {Bd:Int×Int→Prop}
theorem rAs (hc:Cut T' T E Bd):Gt E Bd (wG T') (wG T):=by
 have h:∀ T,wG T=bnd (pB T 1) fun a=>yF T [58,58] (eE (fun c=>a++[58,58]++c) (pB T 1)) (mG a):=fun T=>rfl;rw [h,h];exact (lI hc 1 (by decide)).bnd fun a=>mF hc _ ((lI hc 1 (by decide)).map _).toGD (kI _)
theorem qB4 (hc:Cut T' T E Bd):∀ g,Gt E Bd (qE T' (g+1)) (qE T (g+1))∧GDt E Bd (qE T' g) (qE T g):=by
 have h0:∀ T,qE T 0=wW T 5 ([]:List Bs):=fun T=>rfl;have h1:∀ T g,qE T (g+1)=bnd (pB T 3) fun a=>yF T [44] (eE (a::·) (qE T g)) (mG [a]):=fun T g=>rfl;have key:∀ g,GDt E Bd (qE T' g) (qE T g)→Gt E Bd (qE T' (g+1)) (qE T (g+1)):=fun g ih=>by
  rw [h1,h1];exact (lI hc 3 (by decide)).bnd fun a=>mF hc _ (ih.map _) (kI _)
 have all:∀ g,GDt E Bd (qE T' g) (qE T g):=fun g=>by
  induction g with
  | zero=>rw [h0,h0];exact uA8 hc 5 _
  | succ g ih=>exact (key g ih).toGD
 exact fun g=>⟨key g (all g),all g⟩
theorem wA8 (hc:Cut T' T E Bd):Gt E Bd (pG T') (pG T):=by
 have h:∀ T,pG T=yF T [60] (bnd (qE T 64) fun l=>eE (fun _=>l) (mD T [62])) (mG []):=fun T=>by
  funext σ
  rfl
 rw [h,h];exact mF hc _ (((qB4 hc 63).1).bnd fun l=>(jG hc _).map _).toGD (kI _)
theorem tBb (hc:Cut T' T E Bd) {one' one:St→D×St} (ho:Gt E Bd one' one) (sep:Bs):∀ g,Gt E Bd (yG T' one' sep (g+1)) (yG T one sep (g+1))∧GDt E Bd (yG T' one' sep g) (yG T one sep g):=by
 have h0:∀ T one,yG T one sep 0=wW T 5 ([]:List D):=fun T one=>rfl;have h1:∀ T one g,yG T one sep (g+1)=bnd one fun a=>yF T sep (eE (a::·) (yG T one sep g)) (mG [a]):=fun T one g=>rfl;have key:∀ g,GDt E Bd (yG T' one' sep g) (yG T one sep g)→Gt E Bd (yG T' one' sep (g+1)) (yG T one sep (g+1)):=fun g ih=>by
  rw [h1,h1];exact ho.bnd fun a=>mF hc _ (ih.map _) (kI _)
 have all:∀ g,GDt E Bd (yG T' one' sep g) (yG T one sep g):=fun g=>by
  induction g with
  | zero=>rw [h0,h0];exact uA8 hc 5 _
  | succ g ih=>exact (key g ih).toGD
 exact fun g=>⟨key g (all g),all g⟩
theorem yW (hc:Cut T' T E Bd) {one' one:St→D×St} (ho:Gt E Bd one' one) (sep:Bs):Gt E Bd (iD T' one' sep) (iD T one sep):=by
 have hl:=(tBb hc ho sep 63).1;have h:∀ (T:List Tok) (one:St→D×St) s,(id s:St).2=none→iD T one sep s=yG T one sep 64 s:=fun T one s h=>by
  obtain ⟨i,o⟩:=s;have h:o=none:=h;subst h;rfl
 refine G.mk' (rAz fun i e=>rfl) (rAz fun i e=>rfl) (fun s q=>?_) (fun s h1 h2 h3=>?_)
 ·rw [h _ _ _ (by rw [show id s=(E,none) from q.1])];exact hl.c1 s q
 ·unfold RA RB
  rw [h _ _ _ h1,h _ _ _ h1];exact hl.a s h1 h2 h3
theorem uBb (hc:Cut T' T E Bd):Gt E Bd (qQ T') (qQ T):=by
 have h:∀ T,qQ T=fun σ=>if (fun q:Tok=>decide (q.1=3)) (tk T σ.1)=true then eE (fun x=>[x]) (pB T 3) σ else mG [] σ:=fun T=>by
  funext σ
  simp only [qQ,eE,mG,decide_eq_true_eq]
 rw [h,h];exact uAz hc (fun q:Tok=>decide (q.1=3)) ((lI hc 3 (by decide)).map _) (kI _)
theorem iBh (hc:Cut T' T E Bd):∀ g,Gt E Bd (oH T' (g+1)) (oH T (g+1))∧GDt E Bd (oH T' g) (oH T g):=by
 have h0:∀ T,oH T 0=wW T 6 (tyD 0 [] [] []):=fun T=>rfl;have key:∀ g,GDt E Bd (oH T' g) (oH T g)→Gt E Bd (oH T' (g+1)) (oH T (g+1)):=fun g ih=>by
  let F:=fun T:List Tok=>yF T [105,110,116] (mG (tyD 1 [] [] [])) (yF T [98,111,111,108] (mG (tyD 2 [] [] []))
   (yF T [38] (bnd (qQ T) fun d=>bnd (jB T [109,117,116]) fun m=>eE (fun t=>tyD (if m=true then 5 else 4) [] d [t]) (oH T g))
    (bnd (wG T) fun n=>eE (fun l=>tyD 3 n l []) (pG T))))
  have hF:Gt E Bd (F T') (F T):=by
   refine mF hc _ (kI _).toGD (mF hc _ (kI _).toGD (mF hc _ ?_ ((rAs hc).bnd fun n=>(wA8 hc).map _)));exact GD.bndD (uBb hc).toGD (fun d=>GD.bndD (nAx hc _).toGD (fun m=>ih.map _) fun x y h=>h) fun x y h s=>h s
  have he:∀ (T:List Tok) (i:Nat),oH T (g+1) (i,none)=F T (i,none):=fun T i=>by
   simp only [oH,F,yF,bnd,eE,mG]
  have ha:∀ (T:List Tok) (s:St),s.2=none→oH T (g+1) s=F T s:=fun T s h=>by
   obtain ⟨i,o⟩:=s;have h:o=none:=h;subst h;exact he T i
  refine G.mk' (rAz fun i e=>by rw [wZ]) (rAz fun i e=>by rw [wZ]) (fun s q=>?_) (fun s h1 h2 h3=>?_)
  ·rw [ha T' s (by rw [show s=(E,none) from q.1])];exact hF.c1 s q
  ·unfold RA RB
   rw [ha T' s h1,ha T s h1];exact hF.a s h1 h2 h3
 have all:∀ g,GDt E Bd (oH T' g) (oH T g):=fun g=>by
  induction g with
  | zero=>rw [h0,h0];exact uA8 hc 6 _
  | succ g ih=>exact (key g ih).toGD
 exact fun g=>⟨key g (all g),all g⟩
theorem yA8 (hc:Cut T' T E Bd):Gt E Bd (oH T' 64) (oH T 64):=(iBh hc 63).1
theorem rB4 (hc:Cut T' T E Bd):Gt E Bd (bF T') (bF T):=by
 have h:∀ T,bF T=bnd (pB T 1) fun a=>bnd (mD T [58]) fun _=>eE (fun r=>fdD false a r) (oH T 64):=fun T=>rfl;rw [h,h];exact (lI hc 1 (by decide)).bnd fun a=>(jG hc _).bnd fun _=>(yA8 hc).map _
theorem tB4 (hc:Cut T' T E Bd):Gt E Bd (uU T' 3) (uU T 3):=(lI hc 3 (by decide)).map D.s
theorem jBh (hc:Cut T' T E Bd):Gt E Bd (aW T') (aW T):=by
 have h:∀ T,aW T=bnd (pB T 3) fun a=>yF T [58] (eE (fun l=>tU a l) (iD T (uU T 3) [43])) (mG (tU a [])):=fun T=>rfl;rw [h,h];exact (lI hc 3 (by decide)).bnd fun a=>mF hc _ ((yW hc (tB4 hc) _).map _).toGD (kI _)
theorem uB4 (hc:Cut T' T E Bd):Gt E Bd (pF T') (pF T):=by
 have h:∀ T,pF T=bnd (jB T [109,117,116]) fun m=>bnd (pB T 1) fun a=>bnd (mD T [58]) fun _=>eE (fun r=>fdD m a r) (oH T 64):=fun T=>rfl;rw [h,h];exact (nAx hc _).bnd fun m=>(lI hc 1 (by decide)).bnd fun a=>(jG hc _).bnd fun _=>(yA8 hc).map _
theorem vBb (hc:Cut T' T E Bd):∀ g,Gt E Bd (pH T' g) (pH T g):=fun g=>by
 induction g with
 | zero=>
  have h:∀ T,pH T 0=yF T [46] (wW T 5 ([]:List Bs)) (mG []):=fun T=>rfl;rw [h,h];exact mF hc _ (uA8 hc 5 _) (kI _)
 | succ g ih=>
  have h:∀ T,pH T (g+1)=yF T [46] (yF T [42] (eE ([42]::·) (pH T g)) (bnd (pB T 1) fun x=>eE (x::·) (pH T g))) (mG []):=fun T=>rfl;rw [h,h];exact mF hc _ (mF hc _ (ih.map _).toGD ((lI hc 1 (by decide)).bnd fun x=>ih.map _)).toGD (kI _)
theorem aA9 (hc:Cut T' T E Bd):Gt E Bd (uE T') (uE T):=by
 have h:∀ T,uE T=bnd (pB T 1) fun a=>eE (fun p=>tU a (p.map D.s)) (pH T 64):=fun T=>rfl;rw [h,h];exact (lI hc 1 (by decide)).bnd fun a=>(vBb hc 64).map _
theorem vA2 (hc:Cut T' T E Bd):Gt E Bd (kE T') (kE T):=by
 have h:∀ T,kE T=yF T [116,114,117,101] (mG (opD 2 1 pl0)) (yF T [102,97,108,115,101] (mG (opD 2 0 pl0)) (fun σ=>if (fun q:Tok=>decide (q.1=4)) (tk T σ.1)=true then eE (fun x=>opD 1 ((aZ x 0:Nat):Int) pl0) (pB T 4) σ else eE (fun p=>opD 3 0 p) (uE T) σ)):=fun T=>by
  funext σ
  simp only [kE,yF,eE,mG,decide_eq_true_eq]
 rw [h,h];exact mF hc _ (kI _).toGD (mF hc _ (kI _).toGD (uAz hc (fun q:Tok=>decide (q.1=4)) ((lI hc 4 (by decide)).map _) ((aA9 hc).map _)))
theorem vAz (hc:Cut T' T E Bd):Gt E Bd (lL T') (lL T)∧TE id E Bd (lL T'):=by
 have h:∀ T,lL T=bnd (mD T [40]) fun _=>yF T [41] (mG []) (bnd (iD T (kE T) [44]) fun l=>eE (fun _=>l) (mD T [41])):=fun T=>by
  funext σ
  rfl
 have g:=fun _:Unit=>mF hc [41] (kI ([]:List D)).toGD ((yW hc (vA2 hc) [44]).bnd fun l=>(jG hc [41]).map fun _=>l);rw [h,h];exact ⟨(jG hc _).bnd g,(yAc hc _).left fun x=>(g x).e'⟩
theorem wBb (hc:Cut T' T E Bd):Gt E Bd (tQ T') (tQ T):=by
 have h:∀ T,tQ T=bnd (pB T 1) fun a=>bnd (mD T [58]) fun _=>eE (fun o=>D.t [.s a,o]) (kE T):=fun T=>rfl;rw [h,h];exact (lI hc 1 (by decide)).bnd fun a=>(jG hc _).bnd fun _=>(vA2 hc).map _
theorem yBb (hc:Cut T' T E Bd):Gt E Bd (fN T') (fN T):=by
 have h:∀ T,fN T=bnd (mD T [123]) fun _=>yF T [125] (mG []) (bnd (iD T (tQ T) [44]) fun l=>eE (fun _=>l) (mD T [125])):=fun T=>by
  funext σ
  rfl
 rw [h,h];exact (jG hc _).bnd fun _=>mF hc [125] (kI ([]:List D)).toGD ((yW hc (wBb hc) [44]).bnd fun l=>(jG hc [125]).map fun _=>l)
theorem wAz (hc:Cut T' T E Bd) (w:Bs) {α:Type} {Y' Y X' X:St→α×St} (hY:GDt E Bd Y' Y) (hX:Gt E Bd X' X):Gt E Bd (fun σ=>if (jB T' w σ).1=true then Y' σ else X' σ) (fun σ=>if (jB T w σ).1=true then Y σ else X σ):=by
 have er:∀ (T:List Tok) (Y X:St→α×St),(∀ s:St,(id s).2.isSome=true→id (X s).2=id s)→∀ s:St,(id s).2.isSome=true→id ((fun σ=>if (jB T w σ).1=true then Y σ else X σ) s).2=id s:=fun T Y X hX s h=>by
  obtain ⟨j,e,rfl⟩:=rM h;simp only [eG,Bool.false_eq_true,if_false];exact hX _ h
 refine G.mk' (er T' Y' X' hX.e') (er T Y X hX.e) (fun s h=>?_) (fun s h1 h2 _=>?_)
 ·have h':s=(E,none):=h.1
  subst h';simp only [uF hc.k,Bool.false_eq_true,if_false];exact hX.c1 _ h
 ·obtain ⟨i,o⟩:=s
  have h1:o=none:=h1;subst h1;have h2:i<E:=h2;unfold RA RB;have q:(jB T' w (i,none)).1=(jB T w (i,none)).1:=by simp only [jB,hc.is h2]
  simp only [q]
  split
  ·exact hY.a (i,none) rfl h2 trivial
  ·exact hX.a (i,none) rfl h2 trivial
theorem vB4 (hc:Cut T' T E Bd):Gt E Bd (qK T') (qK T):=by
 have h:∀ T,qK T=bnd (wG T) fun a=>fun σ=>if (jB T [123] σ).1=true then eE (fun l:List D=>vaD 7 op0 op0 0 pl0 a (l.map d1) (l.map d2)) (fN T) σ else eE (fun l=>vaD 6 op0 op0 0 pl0 a [] l) (lL T) σ:=fun T=>by
  funext σ
  rfl
 rw [h,h];exact (rAs hc).bnd fun a=>wAz hc _ ((yBb hc).map _).toGD ((vAz hc).1.map _)
theorem eBj (hc:Cut T' T E Bd):∀ (l:List Bs) (k:Int),Gt E Bd (opS T' l k) (opS T l k)
 | [],k=>kI none
 | s::r,k=>by
  have h:∀ T,opS T (s::r) k=yF T s (eE (fun o=>some (k,o)) (kE T)) (opS T r (k+1)):=fun T=>rfl;rw [h,h];exact mF hc _ ((vA2 hc).map _).toGD (eBj hc r (k+1))
theorem uO (hc:Cut T' T E Bd) {w:Bs} {i:Nat} (hi:i<E) (h:mC T' w (i,none)≠mC T w (i,none)):i+1=E∧(tk T' i).1=1:=by
 simp only [mC,hc.lt i hi] at h ⊢
 by_cases q:i+1<E
 ·rw [hc.lt _ q] at h;exact absurd rfl h
 ·refine ⟨by omega,?_⟩
  by_cases q2:(tk T i).1=1
  ·exact q2
  ·simp [q2] at h
theorem aX (hc:Cut T' T E Bd) (w:Bs):mC T' w (E,none)=false:=by simp [mC,hc.k]
theorem pA6 (hc:Cut T' T E Bd) {i:Nat} (h:i+1=E) (h1:(tk T' i).1=1):(uE T' (i,none)).2=(E,none):=by
 have e1:(pB T' 1 (i,none)).2=(E,none):=by simp only [pB,h1,if_true,h]
 simp only [uE,e1];rw [show (64:Nat)=63+1 from rfl,pH];simp only [uF hc.k,Bool.false_eq_true,if_false]
theorem eAk (hc:Cut T' T E Bd) {α:Type} (p:List Tok→St→Bool) (pe:p T' (E,none)=false) (per:∀ (T:List Tok) (i:Nat) (e:Int×Int),p T (i,some e)=false) (pn:∀ i,i<E→p T' (i,none)≠p T (i,none)→i+1=E∧(tk T' i).1=1) {Y' Y X' X:St→α×St} (hY:Gt E Bd Y' Y) (hX:Gt E Bd X' X)
  (hn:∀ i,i+1=E→(tk T' i).1=1→p T' (i,none)=false→(X' (i,none)).2=(E,none)∨ErrB id Bd (X' (i,none)).2) (hp:∀ i,i+1=E→p T' (i,none)=false):Gt E Bd (fun σ=>if p T' σ=true then Y' σ else X' σ) (fun σ=>if p T σ=true then Y σ else X σ):=by
 have er:∀ (T:List Tok) (Y X:St→α×St),(∀ s:St,(id s).2.isSome=true→id (X s).2=id s)→∀ s:St,(id s).2.isSome=true→id ((fun σ=>if p T σ=true then Y σ else X σ) s).2=id s:=fun T Y X hX s h=>by
  obtain ⟨j,e,rfl⟩:=rM h;simp only [per,Bool.false_eq_true,if_false];exact hX _ h
 refine G.mk' (er T' Y' X' hX.e') (er T Y X hX.e) (fun s h=>?_) (fun s h1 h2 _=>?_)
 ·have h':s=(E,none):=h.1
  subst h';simp only [pe,Bool.false_eq_true,if_false];exact hX.c1 _ h
 ·obtain ⟨i,o⟩:=s
  have h1:o=none:=h1;subst h1;have h2:i<E:=h2
  by_cases q:p T' (i,none)=p T (i,none)
  ·unfold RA RB
   simp only [q]
   split
   ·exact hY.a (i,none) rfl h2 trivial
   ·exact hX.a (i,none) rfl h2 trivial
  ·obtain ⟨k1,k2⟩:=pn i h2 q
   have k3:=hp i k1;rcases hn i k1 k2 k3 with r | ⟨j,e,r1,r2⟩
   ·refine .inr (.inr ⟨?_,trivial⟩)
    simp only [k3,Bool.false_eq_true,if_false];exact r
   ·refine .inr (.inl ⟨j,e,?_,.inr r2⟩)
    simp only [k3,Bool.false_eq_true,if_false];exact r1
theorem wA2 (hc:Cut T' T E Bd) (w:Bs) {i:Nat} (h:i+1=E):mC T' w (i,none)=false:=by simp [mC,h,hc.k]
theorem pAg (T:List Tok) (i:Nat) (e:Int×Int):qD T (i,some e)=false:=by simp [qD,mC]
theorem tAs (hc:Cut T' T E Bd) {i:Nat} (h:i+1=E) (h1:(tk T' i).1=1):(kE T' (i,none)).2=(E,none):=by
 have n:∀ w,jB T' w (i,none)=(false,(i,none)):=fun w=>by
  have:isS T' w i=false:=by simp [isS,h1]
  simp [jB,this]
 simp only [kE,n,Bool.false_eq_true,if_false,h1,show ¬ (1:Int)=4 by decide,pA6 hc h h1]
theorem yAz (hc:Cut T' T E Bd):∀ (l:List Bs) (k:Int),opS T' l k (E,none)=(none,(E,none))
 | [],k=>rfl
 | s::r,k=>by simp only [opS,uF hc.k,Bool.false_eq_true,if_false,yAz hc r (k+1)]
theorem qAg (hc:Cut T' T E Bd):Gt E Bd (iG T') (iG T):=by
 have h:∀ T,iG T=yF T [38] (bnd (jB T [109,117,116]) fun m=>eE (fun p=>vaD (if m=true then 3 else 2) op0 op0 0 p [] [] []) (uE T))
   (yF T [33] (eE (fun o=>vaD 4 o op0 0 pl0 [] [] []) (kE T)) (fun σ=>if (fun T σ=>qD T σ||mC T [123] σ) T σ=true then qK T σ else (bnd (kE T) fun o=>eE (fun s=>opV o s) (opS T dN 1)) σ)):=fun T=>by
  funext σ
  rfl
 rw [h,h];refine mF hc _ ((nAx hc _).bnd fun m=>(aA9 hc).map _).toGD (mF hc _ ((vA2 hc).map _).toGD (eAk hc (fun T σ=>qD T σ||mC T [123] σ) ?_ (fun T i e=>?_) (fun i hi hn=>?_) (vB4 hc) ((vA2 hc).bnd fun o=>(eBj hc _ _).map _) (fun i k1 k2 k3=>.inl ?_) fun i k1=>?_))
 ·simp [qD,aX hc]
 ·simp [qD,mC]
 ·by_cases q1:mC T' [58,58] (i,none)=mC T [58,58] (i,none)
  ·by_cases q2:mC T' [40] (i,none)=mC T [40] (i,none)
   ·by_cases q3:mC T' [123] (i,none)=mC T [123] (i,none)
    ·exact absurd (by simp only [qD,q1,q2,q3]) hn
    ·exact uO hc hi q3
   ·exact uO hc hi q2
  ·exact uO hc hi q1
 ·simp only [bnd,eE,tAs hc k1 k2,yAz hc]
 ·simp [qD,wA2 hc _ k1]
theorem kBh (hc:Cut T' T E Bd) (a:Int):Gt E Bd (lAg T' a) (lAg T a):=by
 have h:∀ T,lAg T a=bnd (jB T [109,117,116]) fun m=>bnd (pB T 1) fun n=>bnd (mD T [58]) fun _=>bnd (oH T 64) fun t=>yF T [61] (bnd (iG T) fun v=>eE (fun _=>smD { wF a with k:=1,m:=m,nm:=n,has:=true } { bK with ty:=t,va:=v }) (mD T [59])) (eE (fun _=>smD { wF a with k:=1,m:=m,nm:=n } { bK with ty:=t }) (mD T [59])):=fun T=>by
  funext σ
  rfl
 rw [h,h];exact (nAx hc _).bnd fun m=>(lI hc 1 (by decide)).bnd fun n=>(jG hc _).bnd fun _=>(yA8 hc).bnd fun t=>mF hc _ ((qAg hc).bnd fun v=>(jG hc _).map _).toGD ((jG hc _).map _)
theorem wB4 (hc:Cut T' T E Bd) (a:Int):Gt E Bd (dG T' a) (dG T a):=by
 have h:∀ T,dG T a=yF T [98,114,101,97,107] (mG (smD { wF a with k:=8 } bK)) (yF T [99,111,110,116,105,110,117,101] (mG (smD { wF a with k:=9 } bK))
   (yF T [114,101,116,117,114,110] (fun σ=>if (jB T [59] σ).1=true then mG (smD { wF a with k:=10 } bK) σ else eE (fun v=>smD { wF a with k:=10,has:=true } { bK with va:=v }) (iG T) σ)
   (yF T [100,114,111,112] (eE (fun p=>smD { wF a with k:=11 } { bK with pl:=p }) (uE T)) (fun σ=>if qD T σ=true then (bnd (wG T) fun n=>eE (fun l=>smD { wF a with k:=3 } { bK with va:=vaD 6 op0 op0 0 pl0 n [] l }) (lL T)) σ
    else (bnd (uE T) fun p=>bnd (mD T [61]) fun _=>eE (fun v=>smD { wF a with k:=2 } { bK with pl:=p,va:=v }) (iG T)) σ)))):=fun T=>by
  funext σ
  rfl
 rw [h,h];refine mF hc _ (kI _).toGD (mF hc _ (kI _).toGD (mF hc _ (wAz hc _ (kI _).toGD ((qAg hc).map _)).toGD (mF hc _ ((aA9 hc).map _).toGD (eAk hc qD ?_ (fun T i e=>pAg T i e) (fun i hi hn=>?_) ((rAs hc).bnd fun n=>(vAz hc).1.map _) ((aA9 hc).bnd fun p=>(jG hc _).bnd fun _=>(qAg hc).map _) (fun i k1 k2 k3=>.inr ?_) fun i k1=>?_))))
 ·simp [qD,aX hc]
 ·by_cases q1:mC T' [58,58] (i,none)=mC T [58,58] (i,none)
  ·by_cases q2:mC T' [40] (i,none)=mC T [40] (i,none)
   ·exact absurd (by simp only [qD,q1,q2]) hn
   ·exact uO hc hi q2
  ·exact uO hc hi q1
 ·refine ⟨E,_,?_,hc.bad⟩
  simp only [id,bnd,eE,pA6 hc k1 k2,mD];rw [show uC T' [61] (E,none)=(E,some (21,((tk T' E).2.2:Int))) by simp only [uC,uF hc.k,Bool.false_eq_true,if_false,jE],gQ]
 ·simp [qD,wA2 hc _ k1]
theorem uAs (hc:Cut T' T E Bd) (a:Int):(dG T' a (E,none)).2=(E,some (21,((tk T' E).2.2:Int))):=by
 have hcl:qD T' (E,none)=false:=by simp [qD,aX hc]
 have ht:pB T' 1 (E,none)=([],(E,some (21,((tk T' E).2.2:Int)))):=by simp [pB,jE,hc.k]
 simp only [dG,uF hc.k,Bool.false_eq_true,if_false,hcl,uE,ht,uA2,cF,gQ]
end
end Qp
namespace Qp
open Go.ChangeShapes Go.WideShapes
open Go.Proofs.YtkcjphhjmlienaaGreatDoor
section
variable {H:Type} {P:Program} {h:Heap} {S:List TypeId}
end
end Qp
namespace Qp
inductive PT where
 | int | bool | st (nm:Bs) (lv:List Bs) | ref (mu:Bool) (lv:List Bs) (t:PT)
end Qp
namespace Qp
end Qp
namespace Qp
section
variable {N:Nat} {h:Heap} {V:Nat→Prop}
end
end Qp
namespace Qp
abbrev KT:=Int×Bs
def kt (q:Tok):KT:=(q.1,q.2.1)
def Lx (t:Bs) (ks:List KT):Prop:=∀ (M a:Nat),t.length<M→∃ l,eA4 M t a=.inl l∧l.map kt=ks
def LxB (t:Bs) (ks:List KT):Prop:=Lx (t.drop (fC false t)) ks
theorem Lx.nil:Lx [] []:=fun M a hM=>by
 obtain ⟨M,rfl⟩:∃ m,M=m+1:=⟨M-1,by omega⟩;exact ⟨[],rfl,rfl⟩
theorem Lx.cons {t x:Bs} {k:Int} {n:Nat} {ks:List KT} (h:lF t=some (k,x,n)) (r:LxB (t.drop n) ks):Lx t ((k,x)::ks):=fun M a hM=>by
 obtain ⟨M,rfl⟩:∃ m,M=m+1:=⟨M-1,by omega⟩
 cases t with
 | nil=>cases h
 | cons c q=>
  have hn:=kO h;obtain ⟨l,h1,h2⟩:=r M (a+(n+fC false ((c::q).drop n))) (by rw [List.length_drop,List.length_drop];omega);rw [List.drop_drop] at h1;refine ⟨(k,x,a)::l,?_,by simp [kt,h2]⟩;simp only [eA4,h,h1]
def brk (t:Bs):Prop:=cM fS t=false
end Qp
namespace Qp
def yA2:Er3→Int×Int
 | none=>(0,0)
 | some (c,a,none)=>(c,a)
 | some (c,_,some b)=>(c,b)
section
variable {N:Nat} {h:Heap}
theorem vAs {B:Nat} {c a b k:Int} {M:Nat} (o:h.own B [.int .i64 c,.int .i64 a,AV.iface 78 (.int .i64 k)]) (v6 v7:Int) {n:Int} (hn:n<200):∃ o',fAj N (M+1) (some (B,0)) v6 v7 n h=some (o',(v6,v7,()),h):=by
 have k2:h.cell (B,2)=some (AV.iface 78 (.int .i64 k)):=o.cell 2;rw [gA2];unfold qZ
 have:wB n 200=true:=by rw [ltI];exact decide_eq_true hn
 rw [this];simp only [cond_true,dA,Nat.zero_add,k2,fA,bE];rw [pAj];simp only [Bool.not_false,cond_true];exact ⟨_,rfl⟩
theorem lBh {v:AV} {e:Er3} (x:ErrW h v e) (hN:10≤N):f29 N v h=some (((yA2 e).1,(yA2 e).2,()),h):=by
 unfold f29;obtain ⟨N,rfl⟩:∃ m,N=m+2:=⟨N-2,by omega⟩
 match e with
 | none=>rw [show v=AV.nilIface from x,eq_nil];rfl
 | some (c,a,none)=>
  obtain ⟨F,f1,f2⟩:=x;rw [f1,dQ];simp only [fA,rB,cond_false];rw [lU];have k0:h.cell (F,0)=some (.int .i64 c):=f2.cell 0;have k1:h.cell (F,1)=some (.int .i64 a):=f2.cell 1;simp only [Bool.not_true,cond_false,Option.isNone_some,dA,Nat.add_zero,Nat.zero_add,k0,k1,fA,bD];obtain ⟨o',e'⟩:=vAs (N:=N+2) (M:=N+1) (b:=0) f2 c a (n:=0) (by omega);rw [e'];rfl
 | some (c,a,some b)=>
  obtain ⟨A,B,f1,f2,f3⟩:=x;rw [f1,dQ];simp only [fA,rB,cond_false];rw [lU];have k0:h.cell (A,0)=some (.int .i64 c):=f2.cell 0;have k1:h.cell (A,1)=some (.int .i64 a):=f2.cell 1;have k2:h.cell (A,2)=some (AV.iface 127 (.ptr (some (B,0)))):=f2.cell 2;have j1:h.cell (B,1)=some (.int .i64 b):=f3.cell 1;simp only [Bool.not_true,cond_false,Option.isNone_some,dA,Nat.add_zero,Nat.zero_add,k0,k1,fA,bD];rw [gA2];unfold qZ;rw [show wB 0 200=true from rfl];simp only [cond_true,dA,Nat.zero_add,k2,fA,bE];rw [lU];simp only [Bool.not_true,cond_false,Option.isNone_some,dA,Nat.zero_add,j1,fA,bD];rw [show dB .i64 (0+1)=1 from rfl];obtain ⟨o',e'⟩:=vAs (N:=N+2) (M:=N) (b:=0) f3 c b (n:=1) (by omega);rw [e'];rfl
theorem mBh {v:AV} {e:Er3} (x:ErrW h v e) (hN:10≤N) (c a:Int):f18 N v c a h=some (decide (yA2 e=(c,a)),h):=by
 unfold f18;rw [lBh x hN,aA];simp only [eqI]
 by_cases q:(yA2 e).1=c
 ·simp only [q,decide_true,cond_true]
  by_cases q2:(yA2 e).2=a
  ·have:yA2 e=(c,a):=by rw [← q,← q2]
   simp only [q2,this,decide_true]
  ·have:¬ yA2 e=(c,a):=fun h=>q2 (by rw [h])
   simp [q2,this]
 ·have:¬ yA2 e=(c,a):=fun h=>q (by rw [h])
  simp [q,this]
end
section
variable {T l r:List Tok} {i:Nat} {k:Int} {x w:Bs} {a:Nat}
end
end Qp
namespace Qp
section
variable {T r:List Tok} {i a c:Nat}
theorem vO (one:SC→D×SC) (f:Nat) (e:Int×Int):oD T one f ((i,some e),c)=(([],false),((i,some e),c)):=by
 cases f <;> simp [oD]
end
end Qp
end Go.Proofs.YtkcjphhjmlienaaGreatDoor

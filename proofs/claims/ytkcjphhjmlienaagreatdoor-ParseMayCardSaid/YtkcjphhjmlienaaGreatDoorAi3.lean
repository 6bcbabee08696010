import Derived.Test.YtkcjphhjmlienaaGreatDoorAi2
/- A verified evaluator for the model of the program: what it evaluates is what the program computes, whatever else the memory holds; part 3. Conditions: no package variables. -/
namespace Go.Proofs.YtkcjphhjmlienaaGreatDoor
set_option linter.unusedVariables false
set_option linter.unusedSimpArgs false
namespace Ai
def AppN (E:Env) (st e:TypeId) (n W:Nat):Prop:=E.und st=some (.slice e)∧(∃ i,E.info e=some i∧i.size=n∧i.bytes+i.size+1≤W)∧∃ z,E.zero e=some z∧z.cells.length=n
def fB6 (E:Env) (st e:TypeId) (n W:Nat):Bool:=
 match E.und st with
 | some (.slice e')=>Nat.beq e' e&&(match E.info e with | some i=>Nat.beq i.size n&&Nat.ble (i.bytes+i.size+1) W | none=>false)&&(match E.zero e with | some z=>Nat.beq z.cells.length n | none=>false)
 | _=>false
theorem AppN.of {E:Env} {st e:TypeId} {n W:Nat} (h:fB6 E st e n W=true):AppN E st e n W:=by
 unfold fB6 at h
 split at h
 ·rename_i e' hu
  simp only [Bool.and_eq_true] at h;obtain ⟨⟨h1,h2⟩,h3⟩:=h;have h1:=Nat.eq_of_beq_eq_true h1;subst h1;refine ⟨hu,?_,?_⟩
  ·split at h2
   ·rename_i i hi
    simp only [Bool.and_eq_true,Nat.ble_eq] at h2;exact ⟨i,hi,Nat.eq_of_beq_eq_true h2.1,h2.2⟩
   ·cases h2
  ·split at h3
   ·rename_i z hz;exact ⟨z,hz,Nat.eq_of_beq_eq_true h3⟩
   ·cases h3
 ·cases h
def Ow (B:Nat) (h:Heap) (s:SL) (n:Nat) (xs:List D):Prop:=
 (s.a=none∧s.len=0∧s.cap=0∧xs=[])∨
 ∃ A cs st vs,s.a=some (A,0)∧s.sz=n∧B≤A∧A<h.next∧h.g A=some (.row cs st)∧s.len=xs.length∧cs.take vs.length=vs∧De h (fun C=>B≤C∧C≠A) n xs vs∧s.len≤s.cap∧(st=.grown∨(st=.own∧s.cap * n=cs.length))
section
variable {E:Env} {B:Nat} {h h':Heap} {s:SL} {n:Nat} {xs:List D} {M:List Nat}
theorem Ow.nil (B:Nat) (h:Heap) (z n:Nat):Ow B h ⟨none,0,0,z⟩ n []:=.inl ⟨rfl,rfl,rfl,rfl⟩
theorem Ow.len (x:Ow B h s n xs):s.len=xs.length:=by
 rcases x with ⟨_,h1,_,rfl⟩ | ⟨A,cs,st,vs,_,_,_,_,_,h1,_⟩
 ·exact h1
 ·exact h1
theorem Ow.ge (x:Ow B h s n xs):∀ A,s.blk=some A→B≤A∧A<h.next:=by
 intro A hA;rcases x with ⟨h1,_⟩ | ⟨A',cs,st,vs,h1,_,h3,h4,_⟩
 ·simp [SL.blk,h1] at hA
 ·simp [SL.blk,h1] at hA;subst hA;exact ⟨h3,h4⟩
theorem Ow.sl (x:Ow B h s n xs):Sl h (fun C=>B≤C) s xs:=by
 rcases x with ⟨h1,h2,h3,rfl⟩ | ⟨A,cs,st,vs,h1,h2,h3,h4,h5,h6,h7,h8,h9,h10⟩
 ·exact ⟨h2,by omega,fun A hA=>by simp [SL.blk,h1] at hA,[],⟨by simp [h2],fun _=>h2,fun A off ha=>by rw [h1] at ha;cases ha⟩,by simp [De]⟩
 ·refine ⟨h6,h9,fun C hC=>?_,vs,⟨?_,fun ha=>(by rw [h1] at ha;cases ha),fun A' off ha=>?_⟩,?_⟩
  ·simp [SL.blk,h1] at hC;subst hC;exact h3
  ·rw [h8.length,h6,h2]
  ·rw [h1] at ha
   simp only [Option.some.injEq,Prod.mk.injEq] at ha;obtain ⟨rfl,rfl⟩:=ha;refine ⟨h4,cs,?_,by rw [List.drop_zero];exact h7⟩;rw [h5];rcases h10 with rfl | ⟨rfl,_⟩ <;> rfl
  ·rw [h2];exact De.weak (fun C hC _=>hC.1) h8
theorem Ow.chg (x:Ow B h s n xs) (c:Chg M h h') (hM:∀ A∈M,A<B∨h.next≤A):Ow B h' s n xs:=by
 rcases x with h1 | ⟨A,cs,st,vs,h1,h2,h3,h4,h5,h6,h7,h8,h9⟩
 ·exact .inl h1
 ·have hno:∀ C,B≤C→C<h.next→C ∉ M:=fun C hC hl hm=>by rcases hM C hm with q | q <;> omega
  refine .inr ⟨A,cs,st,vs,h1,h2,h3,Nat.lt_of_lt_of_le h4 c.next,by rw [c.g A h4 (hno A h3 h4)];exact h5,h6,h7,?_,h9⟩;have h8':De h (fun C=>(B≤C∧C≠A)∧C<h.next) n xs vs:=De.weak (fun C hC hl=>⟨hC,hl⟩) h8;exact De.weak (fun C hC _=>hC.1) (De.chg c (fun C hC=>hno C hC.1.1 hC.2) h8')
theorem lAd (cs ws:List AV) (k:Nat) (hk:k+ws.length≤cs.length):over k cs ws=some (cs.take k++ws++cs.drop (k+ws.length)):=vS k cs ws hk
theorem wS {st e:TypeId} {W:Nat} (ha:AppN E st e n W) (hn:0<n) (x:Ow B h s n xs) {d:D} {cs:List AV} (hd:Dt h (fun C=>B≤C∧s.blk≠some C) d cs) (hcs:cs.length=n) (hB:B≤h.next) (hl:(xs.length+1) * W≤1073741824) :
  ∃ s' h',pC E st st (.slice s.a s.len s.cap s.sz) (.slice (some (h.next,0)) 1 1 n) (h.push (.row cs .own))=some (.slice s'.a s'.len s'.cap s'.sz,h')∧Ow B h' s' n (xs++[d])∧Chg (s.blk.toList) h h'∧(∀ A,s'.blk=some A→s.blk=some A∨h.next≤A):=by
 obtain ⟨hu,⟨i,hi,hi1,hi2⟩,⟨z,hz,hz1⟩⟩:=ha;have hr:(h.push (.row cs .own)).read h.next 0 (1 * n)=some cs:=by
  have:(h.push (.row cs .own)).row h.next=some cs:=(Heap.is_push h cs).row
  simp only [Heap.read,this,List.drop_zero,Nat.one_mul];rw [cL _ _ (by omega),List.take_of_length_le (by omega)]
 have hlen:=x.len;have hroom:Nat.ble ((s.len+1) * (i.bytes+i.size+1)) nW=true:=by
  have h1:(s.len+1) * (i.bytes+i.size+1)≤(xs.length+1) * W:=Nat.mul_le_mul (by omega) (by omega);simp only [nW,Nat.ble_eq];omega
 have hsz:(Nat.beq s.sz i.size||s.a.isNone)=true:=by
  rcases x with ⟨h1,_⟩ | ⟨A,cs,st',vs,h1,h2,_⟩
  ·simp [h1]
  ·simp [hi1,h2]
 have hall:cs.all AV.single=true:=by rw [List.all_eq_true];exact hd.single
 have key:∀ K,gQ (h.push (.row cs .own)) s.a s.len s.cap n 1 cs=K→pC E st st (.slice s.a s.len s.cap s.sz) (.slice (some (h.next,0)) 1 1 n) (h.push (.row cs .own))=K:=by
  intro K hK;have hz2:Nat.beq z.cells.length i.size=true:=by rw [hz1,hi1];exact Nat.beq_refl _
  have hnl:Nat.beq cs.length (1 * i.size)=true:=by rw [hi1,hcs,Nat.one_mul];exact Nat.beq_refl _
  simp only [pC,hu,eV,pAg,cond_false,hi,hz,fM,yE];rw [hi1] at hroom hsz hz2 hnl ⊢;simp only [hr,show Nat.beq 1 0=false from rfl,cond_false,hroom,hsz,hz2,hnl,hall,Bool.and_self,cond_true];exact hK
 have hd0:Dt h (fun C=>(B≤C∧s.blk≠some C)∧C<h.next) d cs:=hd.weak fun C hC hl=>⟨hC,hl⟩;rcases x with ⟨h1,h2,h3,rfl⟩ | ⟨A,bs,st',vs,h1,h2,h3,h4,h5,h6,h7,h8,h9,h10⟩
 ·have c0:Chg [] h ((h.push (.row cs .own)).push (.row cs .grown)):=((Chg.refl [] h).push _).push _
  refine ⟨⟨some (h.next+1,0),1,1,n⟩,(h.push (.row cs .own)).push (.row cs .grown),key _ (by simp only [gQ,h1,h2];rfl),.inr ⟨h.next+1,cs,.grown,cs,rfl,rfl,by omega,by simp,kK _ rfl,rfl,by simp,?_,Nat.le_refl _,.inl rfl⟩,c0.mono (by simp),fun A hA=>.inr (by simp [SL.blk] at hA;omega)⟩;simp only [List.nil_append,De];exact ⟨cs,[],by simp,hcs,Dt.weak (fun C hC _=>⟨hC.1.1,by omega⟩) (Dt.chg c0 (by simp) hd0),rfl⟩
 ·have hvl:=h8.length
  have hbl:s.blk=some A:=by simp [SL.blk,h1]
  have hcl:vs.length≤bs.length:=by
   have:(bs.take vs.length).length=vs.length:=by rw [h7]
   rw [List.length_take] at this;omega
  have hg:(h.push (.row cs .own)).t.get A=some (.row bs st'):=by
   have:=qZ (h:=h) (A:=A) (.row cs .own) (by omega)
   unfold Heap.g at this h5;rw [this,h5]
  have h8':De h (fun C=>(B≤C∧C≠A)∧C<h.next) n xs vs:=De.weak (fun C hC hl=>⟨hC,hl⟩) h8;have hd':Dt h (fun C=>(B≤C∧C≠A)∧C<h.next) d cs:=Dt.weak (fun C hC hl=>⟨⟨hC.1,fun e=>hC.2 (by rw [hbl,e])⟩,hl⟩) hd;have hall2:=h8'.snoc hd' hcs;have htk:takeN (s.len * n) bs=some vs:=by rw [cL _ _ (by rw [h6];omega),h6,← hvl,h7]
  -- a new block
  have fresh:∀ H:Heap,H.next=h.next+1→Chg [A] h H→Ow B (H.push (.row (vs++cs) .grown)) ⟨some (h.next+1,0),s.len+1,s.len+1,n⟩ n (xs++[d]):=by
   intro H hH cH;refine .inr ⟨h.next+1,vs++cs,.grown,vs++cs,rfl,rfl,by omega,by simp [hH],kK _ hH.symm,by simp [h6],List.take_of_length_le (Nat.le_refl _),?_,Nat.le_refl _,.inl rfl⟩;exact De.weak (fun C hC _=>⟨hC.1.1,by omega⟩) (De.chg (cH.push _) (fun C hC=>by simp;exact hC.1.2) hall2)
  rcases h10 with rfl | ⟨rfl,h10⟩
  ·have cH:Chg [A] h ((h.push (.row cs .own)).put A (.row bs .dead)):=((Chg.refl [A] h).push _).put (.inl (by simp)) _
   refine ⟨⟨some (h.next+1,0),s.len+1,s.len+1,n⟩,((h.push (.row cs .own)).put A (.row bs .dead)).push (.row (vs++cs) .grown),key _ ?_,fresh _ rfl cH,(cH.push _).mono (by simp [hbl]),fun C hC=>.inr (by simp [SL.blk] at hC;omega)⟩;simp only [gQ,h1,hg,List.drop_zero,htk];rfl
  ·by_cases hc:s.len+1≤s.cap
   ·have hb1:Nat.ble (s.len+1) s.cap=true:=by simpa using hc
    have hroom2:s.len * n+cs.length≤bs.length:=by
     rw [hcs,← Nat.succ_mul,← h10];exact Nat.mul_le_mul_right _ hc
    have hov:=lAd bs cs (s.len * n) hroom2;have cH:Chg [A] h ((h.push (.row cs .own)).put A (.row (bs.take (s.len * n)++cs++bs.drop (s.len * n+cs.length)) .own)):=((Chg.refl [A] h).push _).put (.inl (by simp)) _;have e1:bs.take (s.len * n)=vs:=by rw [h6,← hvl,h7]
    refine ⟨⟨some (A,0),s.len+1,s.cap,n⟩,_,key _ ?_,.inr ⟨A,_,.own,vs++cs,rfl,rfl,h3,by simp;omega,lA5 _ rfl,by simp [h6],?_,?_,hc,.inr ⟨rfl,?_⟩⟩,cH.mono (by simp [hbl]),fun C hC=>.inl (by simp [SL.blk] at hC;rw [hbl,hC])⟩
    ·simp only [gQ,h1,hg,List.drop_zero,htk,hb1,cond_true,Nat.zero_add,hov]
    ·rw [e1,List.append_assoc,← List.append_assoc,List.take_append_of_le_length (Nat.le_refl _),List.take_of_length_le (Nat.le_refl _)]
    ·exact De.weak (fun C hC _=>hC.1) (De.chg cH (fun C hC=>by simp;exact hC.1.2) hall2)
    ·show s.cap * n=_
     rw [h10];simp only [List.length_append,List.length_take,List.length_drop];omega
   ·have hb1:Nat.ble (s.len+1) s.cap=false:=by
     cases hx:Nat.ble (s.len+1) s.cap with
     | false=>rfl
     | true=>exact absurd (by simpa using hx) hc
    have cH:Chg [A] h (h.push (.row cs .own)):=(Chg.refl [A] h).push _;refine ⟨⟨some (h.next+1,0),s.len+1,s.len+1,n⟩,(h.push (.row cs .own)).push (.row (vs++cs) .grown),key _ ?_,fresh _ rfl cH,(cH.push _).mono (by simp [hbl]),fun C hC=>.inr (by simp [SL.blk] at hC;omega)⟩;simp only [gQ,h1,hg,List.drop_zero,htk,hb1,cond_false];rfl
end
end Ai
namespace Ai
def Heap.own (h:Heap) (A:Nat) (cs:List AV):Prop:=h.g A=some (.row cs .own)∧A<h.next
section
variable {h h':Heap} {A:Nat} {cs vs:List AV} {M:List Nat}
theorem wA (h:Heap) (cs:List AV):(h.push (.row cs .own)).own h.next cs:=⟨kK _ rfl,Nat.lt_succ_self _⟩
theorem iB (x:h.own A cs) (vs:List AV):(h.put A (.row vs .own)).own A vs:=⟨lA5 _ rfl,x.2⟩
theorem Heap.own.chg (x:h.own A cs) (c:Chg M h h') (hM:A ∉ M):h'.own A cs:=⟨(c.g A x.2 hM).trans x.1,Nat.lt_of_lt_of_le x.2 c.next⟩
theorem Heap.own.cell (x:h.own A cs) (j:Nat):h.cell (A,j)=cs[j]?:=by
 rw [Heap.cell_g,x.1,iAo,List.head?_drop]
theorem Heap.own.cells (x:h.own A cs) {j m:Nat} (hj:j+m≤cs.length):h.cells (A,j) m=some (.agg ((cs.drop j).take m)):=by
 rw [Heap.cells_g,x.1,eAk,cL _ _ (by rw [List.length_drop];omega)];rfl
theorem Heap.own.store (x:h.own A cs) (hl:vs.length=cs.length):h.store (A,0) vs=some (h.put A (.row vs .own)):=by
 rw [Heap.store_g,x.1,mU,vS 0 cs vs (by omega)];simp [List.drop_of_length_le (show cs.length≤vs.length by omega)]
theorem Heap.own.store1 (x:h.own A cs) {j:Nat} (hj:j<cs.length) (v:AV):h.store (A,j) [v]=some (h.put A (.row (cs.set j v) .own)):=by
 rw [Heap.store_g,x.1,mU,kAh _ _ _ hj];rfl
theorem Heap.own.put (x:h.own A cs) (vs:List AV):Chg [A] h (h.put A (.row vs .own)):=(Chg.refl [A] h).put (.inl (by simp)) _
theorem vA (h:Heap) (b:Blk):Chg [] h (h.push b):=(Chg.refl [] h).push b
theorem yA {A B β:Type} (p:A×Heap) (f:A→Heap→β) (g:B→β):dC (Sum.inl p) f g=f p.1 p.2:=rfl
theorem aB {A B β:Type} (b:B) (f:A→Heap→β) (g:B→β):dC (Sum.inr b:Sum (A×Heap) B) f g=g b:=rfl
end
end Ai
namespace Ai
open Go.ChangeShapes Go.WideShapes Go.RowKit
theorem law_from {H:Type} {enc:TypeId×Value→H} {P:Program} {w:World} {bs:Nat} {S:List TypeId} (hS:plainB P S=true) {f:FuncId} {ts:List TypeId} (hts:∀ t∈ts,t∈S) {l:List VTy} {F:wG l→Heap→Option (Bool×Heap)} (hF:cD P f l (.val (.one .bool)) F)
  {μs:Mu} {hs:Heap} (hrs:HR μs hs w) (hros:Rof hs) {args:Array Value} {ds:List (DataW H)} {ps:List MemPlace}
  (hlaw:∀ (h:Heap) (vs:List AV),Rof h→HLe hs h→RdArgs P h ts vs ds→∃ xs h',VTy.tos l xs=vs∧F xs h=some (true,h'))
  (hA:DataW.TrodAll enc P w 0 (fun _=>true) true ts args.toList ds ps)
  (hok:∀ (j:Nat) t v,ts[j]? = some t→args[j]? = some v→Value.okWide P w .any bs t v) :
  Calls P f args w fun e w'=>e=.returned (.bool true)∧Below w.heap.size w w':=by
 obtain ⟨μ,h,vs,_,hle,hr,hro,hv,hrd⟩:=uS hS hts hA (fun j t v h1 h2=>hok j t v h1 (by simpa using h2)) μs hs hrs hros;obtain ⟨xs,h',rfl,hx⟩:=hlaw h vs hro hle hrd;refine (hF xs h true h' hx μ w args hr hv).2.mono ?_;rintro e w' ⟨u,rfl,μ',h1,_,h3⟩;simp only [Ty.to,VTy.to,CTy.to,VR] at h1;exact ⟨by rw [h1],hro.ext_below h3⟩
end Ai
end Go.Proofs.YtkcjphhjmlienaaGreatDoor

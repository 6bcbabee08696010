import Derived.Test.YtjipnkhkkhpenaaGreatDoorAi2
import Derived.Deep.Slices
import Derived.ChangeReads
import Derived.ProofKit
import Derived.OpenShut
/- A verified evaluator for the model of the program: what it evaluates is what the program computes, whatever else the memory holds; part 3. Conditions: no package variables. -/
namespace Go.Proofs.YtjipnkhkkhpenaaGreatDoor
set_option linter.unusedVariables false
set_option linter.unusedSimpArgs false
set_option linter.unusedSectionVars false
namespace Ai
variable [IntT]
open Go.ChangeShapes Go.WideShapes
open Go.RowKit (Below)
theorem HR.below {μ:Mu} {h:Heap} {w w':World} (hr:HR μ h w) (hb:Below w.heap.size w w'):HR μ h w':=
 ⟨fun A l hA=>⟨(hr.dom A l hA).1,Nat.lt_of_lt_of_le (hr.dom A l hA).2 hb.size⟩,hr.inj,fun A l b hA hb'=>BR.heap (hb.block l.b (hr.dom A l hA).2) (hr.blk A l b hA hb'),hr.pin⟩
theorem Ext.of_below {μ:Mu} {h:Heap} {w w':World} (hb:Below w.heap.size w w'):Ext μ h w μ h w':=
 ⟨Mu.le_refl μ,Nat.le_refl _,fun _ _ h=>.inl h,fun _ _ h=>h,fun b hlt _=>hb.block b hlt,hb.size,hb.os,hb.tape,hb.output⟩
theorem enter_of {E:Env} {P:Program} (ok:EnvOK E P) {f:FuncId} {fn:Func} (hf:E.fn f=some fn) (hb:fn.body.isSome=true) (args:Array Value) (w:World):(callFunc f args).run P w=.ok (.enter f args) w:=by
 obtain ⟨hfp,hname⟩:=ok.fn f fn hf
 unfold callFunc
 refine (run_bind_ok (P:=P) (a:=P) (w':=w) rfl).trans ?_
 rw [hfp]
 simp only [hname,Bool.false_eq_true,if_false]
 cases hbb:fn.body with
 | none=>simp [hbb] at hb
 | some c=>rfl
def tileT (P:Program) (S:List TypeId):List Field→Nat→Nat→Bool
 | [],off,tot=>Nat.beq off tot
 | f::r,off,tot=>Nat.beq f.offset off&&memL f.type S&&tileT P S r (off+P.cellsOf f.type) tot
def plainT (P:Program) (S:List TypeId) (t:TypeId):Bool:=
 match P.underlying t with
 | some .bool=>true
 | some (.int _)=>true
 | some .string=>true
 | some (.slice e)=>memL e S&&Nat.ble 1 (P.cellsOf e)
 | some (.struct fs)=>tileT P S fs.toList 0 (P.cellsOf t)
 | some (.array n e)=>memL e S&&Nat.beq (P.cellsOf t) (n * P.cellsOf e)
 | _=>false
def plainB (P:Program) (S:List TypeId):Bool:=S.all (plainT P S)
section
variable {H:Type} {enc:TypeId×Value→H} {P:Program} {w:World} {bs:Nat}
inductive Rd (P:Program) (h:Heap):TypeId→List AV→DataW H→Prop
 | bool {t:TypeId} {b:Bool}:P.underlying t=some .bool→Rd P h t [.bool b] (.lit (.bool b))
 | int {t:TypeId} {k:IntKind} {n:Int}:P.underlying t=some (.int k)→(Lit.int k n).wf=true→Rd P h t [.int k n] (.lit (.int k n))
 | str {t:TypeId} {s:List UInt8}:P.underlying t=some .string→s.length≤maxLen→Rd P h t [.str s] (.lit (.string s))
 | nil {t e:TypeId}:P.underlying t=some (.slice e)→Rd P h t [.slice none 0 0 0] .nil
 | slice {t e:TypeId} {A:Nat} {ass:List (List AV)} {ds sp:List (DataW H)}:P.underlying t=some (.slice e)→h.t.get A=some (.row ass.flatten .ro)→A<h.next→ds.length≤maxLen→ass.length=ds.length→
   (∀ (i:Nat) (a:List AV) (d:DataW H),ass[i]? = some a→ds[i]? = some d→Rd P h e a d)→Rd P h t [.slice (some (A,0)) ds.length ds.length (P.cellsOf e)] (.slice ds sp)
 | struct {t:TypeId} {fs:Array Field} {ass:List (List AV)} {ds:List (DataW H)}:P.underlying t=some (.struct fs)→ass.length=fs.size→ds.length=fs.size→
   (∀ (i:Nat) (f:Field) (a:List AV) (d:DataW H),fs[i]? = some f→ass[i]? = some a→ds[i]? = some d→Rd P h f.type a d)→Rd P h t ass.flatten (.agg ds)
 | array {t:TypeId} {n:Nat} {e:TypeId} {ass:List (List AV)} {ds:List (DataW H)}:P.underlying t=some (.array n e)→ass.length=n→ds.length=n→
   (∀ (i:Nat) (a:List AV) (d:DataW H),ass[i]? = some a→ds[i]? = some d→Rd P h e a d)→Rd P h t ass.flatten (.agg ds)
structure HLe (h h':Heap):Prop where
 get:∀ A b,h.t.get A=some b→h'.t.get A=some b
 next:h.next≤h'.next
 pins:h'.pins=h.pins
theorem HLe.refl (h:Heap):HLe h h:=⟨fun _ _ h=>h,Nat.le_refl _,rfl⟩
theorem HLe.trans {a b c:Heap} (x:HLe a b) (y:HLe b c):HLe a c:=⟨fun A l h=>y.get A l (x.get A l h),Nat.le_trans x.next y.next,y.pins.trans x.pins⟩
theorem Rd.mono {h h':Heap} (hl:HLe h h') {t:TypeId} {as:List AV} {d:DataW H} (hx:Rd P h t as d):Rd P h' t as d:=by
 induction hx with
 | bool h1=>exact .bool h1
 | int h1 h2=>exact .int h1 h2
 | str h1 h2=>exact .str h1 h2
 | nil h1=>exact .nil h1
 | slice h1 h2 h3 h4 h5 _ ih=>exact .slice h1 (hl.get _ _ h2) (Nat.lt_of_lt_of_le h3 hl.next) h4 h5 ih
 | struct h1 h2 h3 _ ih=>exact .struct h1 h2 h3 ih
 | array h1 h2 h3 _ ih=>exact .array h1 h2 h3 ih
structure Rof (h:Heap):Prop where
 ro:∀ A b,h.t.get A=some b→∃ cs,b=.row cs .ro
 top:∀ A,h.next≤A→h.t.get A=none
def Opens (P:Program) (w:World) (t:TypeId) (cs:List Value) (d:DataW H):Prop:=
 ∀ μ h,HR μ h w→Rof h→∃ μ' h' as,μ.le μ'∧HLe h h'∧HR μ' h' w∧Rof h'∧VRs μ' as cs∧Rd P h' t as d
theorem opens_list:∀ (l:List (TypeId×List Value×DataW H)),(∀ x∈l,Opens P w x.1 x.2.1 x.2.2)→∀ μ h,HR μ h w→Rof h→
  ∃ (μ':Mu) (h':Heap) (ass:List (List AV)),μ.le μ'∧HLe h h'∧HR μ' h' w∧Rof h'∧ass.length=l.length∧∀ (i:Nat) a x,ass[i]? = some a→l[i]? = some x→VRs μ' a x.2.1∧Rd P h' x.1 a x.2.2
 | [],_,μ,h,hr,hro=>⟨μ,h,[],Mu.le_refl μ,HLe.refl h,hr,hro,rfl,fun i a x ha=>by simp at ha⟩
 | x::r,hx,μ,h,hr,hro=>by
  obtain ⟨μ1,h1,as,g1,g2,g3,g4,g5,g6⟩:=hx x List.mem_cons_self μ h hr hro
  obtain ⟨μ2,h2,ass,k1,k2,k3,k4,k5,k6⟩:=opens_list r (fun y hy=>hx y (List.mem_cons_of_mem _ hy)) μ1 h1 g3 g4
  refine ⟨μ2,h2,as::ass,fun A l hA=>k1 A l (g1 A l hA),g2.trans k2,k3,k4,by simp [k5],?_⟩
  intro i a y ha hy
  cases i with
  | zero=>simp at ha hy;subst ha;subst hy;exact ⟨VRs.mono k1 _ _ g5,Rd.mono k2 g6⟩
  | succ i=>simp at ha hy;exact k6 i a y ha hy
theorem VRs.flatten {μ:Mu}:∀ {ass:List (List AV)} {css:List (List Value)},ass.length=css.length→(∀ (i:Nat) a c,ass[i]? = some a→css[i]? = some c→VRs μ a c)→VRs μ ass.flatten css.flatten
 | [],[],_,_=>VRs.nil
 | a::r,c::q,hl,hx=>by
  simp only [List.flatten_cons]
  exact VRs.append (hx 0 a c rfl rfl) (VRs.flatten (by simpa using hl) fun i a c h1 h2=>hx (i+1) a c (by simpa using h1) (by simpa using h2))
 | [],_::_,hl,_=>by simp at hl
 | _::_,[],hl,_=>by simp at hl
theorem HR.pushRo {μ:Mu} {h:Heap} (hr:HR μ h w) (hro:Rof h) {l:Loc} {cs:List AV} (hlt:l.b<w.heap.size) (hrow:RowR μ w l cs) :
  HR (μ.add h.next l) (h.push (.row cs .ro)) w∧Rof (h.push (.row cs .ro))∧HLe h (h.push (.row cs .ro))∧μ.le (μ.add h.next l):=by
 have hle:μ.le (μ.add h.next l):=Mu.le_add hr.isNone
 have hget:∀ A b,(h.push (.row cs .ro)).t.get A=some b→(A=h.next∧b=.row cs .ro)∨(A≠h.next∧h.t.get A=some b):=fun A b hA=>Tr.get_set hA
 refine ⟨⟨?_,?_,?_,fun x hx=>hle _ _ (hr.pin x hx)⟩,⟨?_,?_⟩,⟨?_,Nat.le_succ _,rfl⟩,hle⟩
 ·intro A l' hA
  unfold Mu.add at hA
  split at hA
  ·rename_i he;simp only [Option.some.injEq] at hA;subst hA;subst he;exact ⟨Nat.lt_succ_self _,hlt⟩
  ·exact ⟨Nat.lt_succ_of_lt (hr.dom A l' hA).1,(hr.dom A l' hA).2⟩
 ·intro A B la lb ba bb _ _ hA hB _ _ _ _
  have ro:∀ A b,(h.push (.row cs .ro)).t.get A=some b→b.isRo=true:=by
   intro A b hA
   rcases hget A b hA with ⟨_,rfl⟩ | ⟨_,h1⟩
   ·rfl
   ·obtain ⟨c,rfl⟩:=hro.ro A b h1;rfl
  exact ⟨ro _ _ hA,ro _ _ hB⟩
 ·intro A l' b hA hb
  unfold Mu.add at hA
  split at hA
  ·rename_i he
   simp only [Option.some.injEq] at hA;subst hA
   rcases hget A b hb with ⟨_,rfl⟩ | ⟨h1,_⟩
   ·exact RowR.mono hrow hle
   ·exact absurd he h1
  ·rename_i hne
   rcases hget A b hb with ⟨h1,_⟩ | ⟨_,h1⟩
   ·exact absurd h1 hne
   ·exact BR.mono hle (hr.blk A l' b hA h1)
 ·intro A b hA
  rcases hget A b hA with ⟨_,rfl⟩ | ⟨_,h1⟩
  ·exact ⟨cs,rfl⟩
  ·exact hro.ro A b h1
 ·intro A hA
  have h1:h.next+1≤A:=hA
  show (h.t.set h.next _).get A=none
  rw [Tr.get_set_of (by omega)]
  exact hro.top A (by omega)
 ·intro A b hA
  show (h.t.set h.next _).get A=some b
  rw [Tr.get_set_of ?_]
  ·exact hA
  ·intro e
   rw [hro.top A (by omega)] at hA;cases hA
def hasRow (w:World):Prop:=∃ b e n,w.shape? b=some (e,n)
theorem shape_of_cell {a:Addr} {v:Value} (h:w.cell? a=some v):∃ e n,w.shape? a.block=some (e,n):=by
 unfold World.cell? at h
 unfold World.shape?
 split at h
 ·exact ⟨_,_,rfl⟩
 ·cases h
theorem lt_of_shape {b:Nat} {e n} (h:w.shape? b=some (e,n)):b<w.heap.size:=by
 unfold World.shape? at h
 split at h
 ·rename_i c e f hh;exact (Array.getElem?_eq_some_iff.1 hh).1
 ·cases h
theorem tile_flatten {S:List TypeId}:∀ (fs:List Field) (off tot:Nat) (cs:List Value),tileT P S fs off tot=true→cs.length=tot→off≤tot→
  (fs.map fun f=>(cs.drop f.offset).take (P.cellsOf f.type)).flatten=cs.drop off∧∀ f∈fs,f.type∈S
 | [],off,tot,cs,h,hl,_=>by
  simp only [tileT] at h
  have:=Nat.eq_of_beq_eq_true h
  subst this
  exact ⟨by rw [List.drop_of_length_le (by omega)];rfl,fun f hf=>by simp at hf⟩
 | f::r,off,tot,cs,h,hl,hle=>by
  simp only [tileT,Bool.and_eq_true] at h
  obtain ⟨⟨h1,h2⟩,h3⟩:=h
  have e1:=Nat.eq_of_beq_eq_true h1
  have hle2:off+P.cellsOf f.type≤tot:=by
   have:∀ (fs:List Field) (off tot:Nat),tileT P S fs off tot=true→off≤tot:=by
    intro fs
    induction fs with
    | nil=>intro off tot h;simp only [tileT] at h;have:=Nat.eq_of_beq_eq_true h;omega
    | cons f r ih=>intro off tot h;simp only [tileT,Bool.and_eq_true] at h;have:=ih _ _ h.2;omega
   exact this _ _ _ h3
  obtain ⟨h4,h5⟩:=tile_flatten r _ tot cs h3 hl hle2
  refine ⟨?_,fun g hg=>?_⟩
  ·simp only [List.map_cons,List.flatten_cons,h4,e1]
   rw [← List.drop_drop,List.take_append_drop]
  ·rcases List.mem_cons.1 hg with rfl | hg
   ·exact memL_iff.1 h2
   ·exact h5 g hg
theorem chunks_flatten (n:Nat):∀ (k:Nat) (cs:List Value),cs.length=k * n→((List.range k).map fun i=>(cs.drop (i * n)).take n).flatten=cs
 | 0,cs,h=>by simp at h;subst h;rfl
 | k+1,cs,h=>by
  rw [List.range_succ_eq_map,List.map_cons,List.flatten_cons,List.map_map]
  have:=chunks_flatten n k (cs.drop n) (by simp [h,Nat.add_mul])
  have e:((List.range k).map ((fun i=>(cs.drop (i * n)).take n) ∘ Nat.succ))=(List.range k).map fun i=>((cs.drop n).drop (i * n)).take n:=by
   refine List.map_congr_left fun i _=>?_
   simp only [Function.comp,List.drop_drop]
   rw [Nat.succ_mul,Nat.add_comm]
  rw [e,this]
  simp
theorem open_any {S:List TypeId} (hS:plainB P S=true):∀ (fuel:Nat) (t:TypeId) (cs:List Value) (d:DataW H) (ps:List MemPlace),t∈S→DataW.trod enc P w 0 (fun _=>true) true fuel t cs=some (d,ps)→
  (∀ a,.slice (some a) 0 0∈cs→hasRow w)→Opens P w t cs d
 | 0,t,cs,d,ps,_,h,_=>by simp [DataW.trod] at h
 | fuel+1,t,cs,d,ps,ht,h,hz=>by
  have hp:=List.all_eq_true.1 hS t ht
  unfold plainT at hp
  intro μ h0 hr hro
  split at hp
  ·rename_i hu
   obtain ⟨b,rfl,hx⟩:=DataW.trod_bool hu h
   simp only [Prod.mk.injEq] at hx;obtain ⟨rfl,_⟩:=hx
   exact ⟨μ,h0,[.bool b],Mu.le_refl μ,HLe.refl _,hr,hro,VRs.cons (by simp [VR]) VRs.nil,.bool hu⟩
  ·rename_i k hu
   obtain ⟨n,rfl,hx,hw⟩:=DataW.trod_int hu h
   simp only [Prod.mk.injEq] at hx;obtain ⟨rfl,_⟩:=hx
   exact ⟨μ,h0,[.int k n],Mu.le_refl μ,HLe.refl _,hr,hro,VRs.cons (by simp [VR]) VRs.nil,.int hu hw⟩
  ·rename_i hu
   obtain ⟨s,rfl,hx,hw⟩:=DataW.trod_string hu h
   simp only [Prod.mk.injEq] at hx;obtain ⟨rfl,_⟩:=hx
   refine ⟨μ,h0,[.str s.data.toList],Mu.le_refl μ,HLe.refl _,hr,hro,VRs.cons (by simp [VR]) VRs.nil,.str hu (by simpa using hw)⟩
  ·
   rename_i e hu
   simp only [Bool.and_eq_true] at hp
   have he:e∈S:=memL_iff.1 hp.1
   have hn1:1≤P.cellsOf e:=by simpa using hp.2
   rcases DataW.trod_slice hu h with ⟨rfl,hx⟩ | ⟨a,len,cap,elems,rest,n,hfu,rfl,hx,_,hlc,hcm,hlen,hel,hsp,_⟩
   ·simp only [Prod.mk.injEq] at hx;obtain ⟨rfl,_⟩:=hx
    exact ⟨μ,h0,[.slice none 0 0 0],Mu.le_refl μ,HLe.refl _,hr,hro,VRs.cons (by simp [VR]) VRs.nil,.nil hu⟩
   ·obtain rfl:fuel=n:=by omega
    simp only [Prod.mk.injEq] at hx
    obtain ⟨rfl,_⟩:=hx
    obtain ⟨hrl,hre⟩:=hsp rfl
    have hall:∀ i,i<cap→∃ cs',w.cells? 0 (a.add (i * P.cellsOf e)) (P.cellsOf e)=some cs':=by
     intro i hi
     have key:∃ y,(w.cells? 0 (a.add (i * P.cellsOf e)) (P.cellsOf e)).bind (DataW.trod enc P w 0 (fun _=>true) true fuel e)=some y:=by
      by_cases hil:i<len
      ·rw [hel i hil,List.getElem?_eq_getElem (by omega)];exact ⟨_,rfl⟩
      ·have:=hre (i-len) (by omega)
       rw [show len+(i-len)=i by omega] at this
       rw [this,List.getElem?_eq_getElem (by omega)];exact ⟨_,rfl⟩
     obtain ⟨y,hy⟩:=key
     obtain ⟨cs',h1,_⟩:=Option.bind_eq_some_iff.1 hy
     exact ⟨cs',h1⟩
    obtain ⟨C,hC⟩:=Deep.choose_lt hall
    have hcell:∀ i,i<cap→∀ j,j<P.cellsOf e→∃ v,(C i)[j]? = some v∧a.spot=none∧w.cell? ⟨a.block,a.off+(i * P.cellsOf e+j),none⟩=some v:=by
     intro i hi j hj
     obtain ⟨_,hl2,h2⟩:=World.cells?_some (hC i hi)
     obtain ⟨_,hl0,h20⟩:=World.cells?_some (hC 0 (by omega))
     have hspot:a.spot=none:=by
      have h3:=h20 0 (by omega)
      rw [List.getElem?_eq_getElem (by omega)] at h3
      simp only [Nat.zero_mul,Addr.add,if_true] at h3
      unfold World.cell? at h3
      split at h3
      ·split at h3
       ·cases h3
       ·rename_i hs;cases hq:a.spot with
        | none=>rfl
        | some _=>simp [hq] at hs
      ·cases h3
     refine ⟨(C i)[j],List.getElem?_eq_getElem (by omega),hspot,?_⟩
     have h3:=h2 j hj
     rw [List.getElem?_eq_getElem (by omega)] at h3
     rw [← h3,Deep.add_add]
     unfold Addr.add
     split
     ·rename_i h0;rw [h0,← hspot];rfl
     ·rfl
    have hrow:0<cap→∃ e' n',w.shape? a.block=some (e',n'):=fun hc=>by
     obtain ⟨v,_,_,h3⟩:=hcell 0 hc 0 (by omega)
     exact shape_of_cell (a:=⟨a.block,_,none⟩) h3
    have hopen:∀ x∈(List.range len).map (fun i=>((e,C i,(elems.getD i (.nil,[])).1):TypeId×List Value×DataW H)),Opens P w x.1 x.2.1 x.2.2:=by
     intro x hx
     obtain ⟨i,hi,rfl⟩:=List.mem_map.1 hx
     have hi:i<len:=by simpa using hi
     have h3:=hel i hi
     rw [hC i (by omega)] at h3
     have h4:DataW.trod enc P w 0 (fun _=>true) true fuel e (C i)=some ((elems.getD i (.nil,[])).1,(elems.getD i (.nil,[])).2):=by
      simp only [Option.bind_some] at h3
      rw [h3];simp [List.getD,List.getElem?_eq_getElem (show i<elems.length by omega)]
     refine open_any hS fuel e (C i) _ _ he h4 (fun _ _=>?_)
     obtain ⟨e',n',h5⟩:=hrow (by omega)
     exact ⟨_,e',n',h5⟩
    obtain ⟨μ1,h1,ass,g1,g2,g3,g4,g5,g6⟩:=opens_list _ hopen μ h0 hr hro
    simp only [List.length_map,List.length_range] at g5
    have gi:∀ i,i<len→((List.range len).map (fun i=>((e,C i,(elems.getD i (.nil,[])).1):TypeId×List Value×DataW H)))[i]? = some (e,C i,(elems.getD i (.nil,[])).1):=fun i hi=>by simp [hi]
    have hds:∀ i,i<len→(elems.map (·.1))[i]? = some ((elems.getD i (.nil,[])).1):=fun i hi=>by
     simp [List.getD,List.getElem?_eq_getElem (show i<elems.length by omega)]
    have hvf:VRs μ1 ass.flatten ((List.range len).map C).flatten:=VRs.flatten (by simp [g5]) fun i a c ha hc=>by
     have hi:i<len:=by have:=(List.getElem?_eq_some_iff.1 ha).1;omega
     simp [hi] at hc
     subst hc
     exact (g6 i a _ ha (gi i hi)).1
    have hCl:∀ i,i<cap→(C i).length=P.cellsOf e:=fun i hi=>(World.cells?_some (hC i hi)).2.1
    have hfl:∀ k,k≤cap→((List.range k).map C).flatten.length=k * P.cellsOf e∧∀ (i:Nat) v,((List.range k).map C).flatten[i]? = some v→w.cell? ⟨a.block,a.off+i,none⟩=some v:=by
     intro k
     induction k with
     | zero=>intro _;exact ⟨by simp,fun i v h=>by simp at h⟩
     | succ k ih=>
      intro hk
      obtain ⟨i1,i2⟩:=ih (by omega)
      rw [List.range_succ,List.map_append,List.flatten_append]
      refine ⟨by simp only [List.length_append,i1,List.map_cons,List.map_nil,List.flatten_cons,List.flatten_nil,List.append_nil,hCl k (by omega),Nat.succ_mul],fun i v hv=>?_⟩
      rcases Nat.lt_or_ge i (k * P.cellsOf e) with hlt | hge
      ·rw [List.getElem?_append_left (by omega)] at hv;exact i2 i v hv
      ·rw [List.getElem?_append_right (by omega),i1] at hv
       simp only [List.map_cons,List.map_nil,List.flatten_cons,List.flatten_nil,List.append_nil] at hv
       have hj:i-k * P.cellsOf e<P.cellsOf e:=by
        have:=(List.getElem?_eq_some_iff.1 hv).1
        rw [hCl k (by omega)] at this;exact this
       obtain ⟨u,h3,_,h4⟩:=hcell k (by omega) _ hj
       rw [hv] at h3;cases h3
       rw [← h4];congr 2;omega
    by_cases hc0:cap=0
    ·obtain rfl:len=0:=by omega
     subst hc0
     obtain ⟨b0,e0,n0,hb0⟩:=hz a (by simp)
     have hass:ass=[]:=List.eq_nil_of_length_eq_zero g5
     obtain ⟨q1,q2,q3,q4⟩:=HR.pushRo g3 g4 (l:=⟨b0,0,n0,false⟩) (cs:=ass.flatten) (lt_of_shape hb0) ⟨⟨e0,hb0⟩,by simp [hass],fun i x hx=>by simp [hass] at hx⟩
     have hel0:elems=[]:=List.eq_nil_of_length_eq_zero hlen
     refine ⟨_,_,[.slice (some (h1.next,0)) (elems.map (·.1)).length (elems.map (·.1)).length (P.cellsOf e)],fun A l hA=>q4 A l (g1 A l hA),g2.trans q3,q1,q2,VRs.cons ?_ VRs.nil,.slice hu Tr.get_set_same (Nat.lt_succ_self _) (by simp [hel0]) (by simp [g5,hel0]) fun i a d ha hd=>by simp [hass] at ha⟩
     simp only [VR]
     exact ⟨⟨b0,0,n0,false⟩,a,0,by simp [Mu.add],by simp [hel0],Nat.le_refl _,.inl ⟨by simp [hel0],rfl⟩⟩
    ·obtain ⟨e',n',hsh⟩:=hrow (by omega)
     obtain ⟨v,_,hspot,_⟩:=hcell 0 (by omega) 0 (by omega)
     obtain ⟨hf1,hf2⟩:=hfl cap (Nat.le_refl _)
     obtain ⟨hf3,hf4⟩:=hfl len hlc
     have htot:a.off+cap * P.cellsOf e≤n':=by
      have h3:cap * P.cellsOf e-1<((List.range cap).map C).flatten.length:=by
       have:0<cap * P.cellsOf e:=Nat.mul_pos (by omega) hn1
       omega
      have h4:=hf2 _ _ (List.getElem?_eq_getElem h3)
      unfold World.cell? at h4
      unfold World.shape? at hsh
      split at h4
      ·rename_i c el fz hh
       rw [hh] at hsh
       simp only [Option.some.injEq,Prod.mk.injEq] at hsh
       split at h4
       ·cases h4
       ·have:=(Array.getElem?_eq_some_iff.1 h4).1
        dsimp only at this
        have h0:0<cap * P.cellsOf e:=Nat.mul_pos (by omega) hn1
        omega
      ·cases h4
     have hlm:len * P.cellsOf e≤cap * P.cellsOf e:=Nat.mul_le_mul_right _ hlc
     obtain ⟨q1,q2,q3,q4⟩:=HR.pushRo g3 g4 (l:=⟨a.block,a.off,n',false⟩) (cs:=ass.flatten) (lt_of_shape hsh) ⟨⟨e',hsh⟩,by have:=hvf.length;simp only;rw [← this,hf3];omega,fun i x hx=>by
      obtain ⟨y,h3,h4⟩:=hvf.get hx
      exact ⟨y,hf4 i y h3,h4⟩⟩
     refine ⟨_,_,[.slice (some (h1.next,0)) (elems.map (·.1)).length (elems.map (·.1)).length (P.cellsOf e)],fun A l hA=>q4 A l (g1 A l hA),g2.trans q3,q1,q2,VRs.cons ?_ VRs.nil,.slice hu Tr.get_set_same (Nat.lt_succ_self _) (by simp;omega) (by simp [g5,hlen]) fun i a' d ha hd=>?_⟩
     ·simp only [VR]
      refine ⟨⟨a.block,a.off,n',false⟩,a,cap,by simp [Mu.add],by simp [hlen],Nat.le_refl _,.inr ⟨?_,by simp [hlen,hlc],by simpa using htot,by simp⟩⟩
      cases a;simp only at hspot ⊢;rw [hspot];rfl
     ·have hi:i<len:=by have:=(List.getElem?_eq_some_iff.1 ha).1;omega
      rw [hds i hi] at hd;cases hd
      exact Rd.mono q3 (g6 i a' _ ha (gi i hi)).2
  ·
   rename_i fs hu
   obtain ⟨xs,n,hfu,hx,hcl,hxl,hf⟩:=DataW.trod_struct hu h
   obtain rfl:fuel=n:=by omega
   simp only [Prod.mk.injEq] at hx
   obtain ⟨rfl,_⟩:=hx
   obtain ⟨hfl,hin⟩:=tile_flatten fs.toList 0 _ cs hp hcl (Nat.zero_le _)
   have hopen:∀ x∈(List.range fs.size).map (fun i=>(((fs.getD i default).type,(cs.drop (fs.getD i default).offset).take (P.cellsOf (fs.getD i default).type),(xs.getD i (.nil,[])).1):TypeId×List Value×DataW H)),Opens P w x.1 x.2.1 x.2.2:=by
    intro x hx
    obtain ⟨i,hi,rfl⟩:=List.mem_map.1 hx
    have hi:i<fs.size:=by simpa using hi
    have hfi:fs[i]? = some (fs.getD i default):=by simp [Array.getD,hi]
    have h3:=hf i _ hfi
    have h4:xs[i]? = some ((xs.getD i (.nil,[])).1,(xs.getD i (.nil,[])).2):=by simp [List.getD,List.getElem?_eq_getElem (show i<xs.length by omega)]
    refine open_any hS fuel _ _ _ _ (hin _ ?_) (h3.trans h4) (fun a ha=>hz a ?_)
    ·simpa using Array.mem_of_getElem? hfi
    ·exact List.mem_of_mem_drop (List.mem_of_mem_take ha)
   obtain ⟨μ1,h1,ass,g1,g2,g3,g4,g5,g6⟩:=opens_list _ hopen μ h0 hr hro
   simp only [List.length_map,List.length_range] at g5
   have gi:∀ i,i<fs.size→((List.range fs.size).map (fun i=>(((fs.getD i default).type,(cs.drop (fs.getD i default).offset).take (P.cellsOf (fs.getD i default).type),(xs.getD i (.nil,[])).1):TypeId×List Value×DataW H)))[i]? = some ((fs.getD i default).type,(cs.drop (fs.getD i default).offset).take (P.cellsOf (fs.getD i default).type),(xs.getD i (.nil,[])).1):=fun i hi=>by simp [hi]
   refine ⟨μ1,h1,ass.flatten,g1,g2,g3,g4,?_,.struct hu (by omega) (by simp [hxl]) fun i f a d hfi ha hd=>?_⟩
   ·have h3:VRs μ1 ass.flatten ((fs.toList.map fun f=>(cs.drop f.offset).take (P.cellsOf f.type))).flatten:=VRs.flatten (by simp [g5]) fun i a c ha hc=>by
     have hi:i<fs.size:=by have:=(List.getElem?_eq_some_iff.1 ha).1;omega
     have h4:=(g6 i a _ ha (gi i hi)).1
     simp [hi] at hc
     subst hc
     simpa [Array.getD,hi] using h4
    rw [hfl] at h3
    simpa using h3
   ·have hi:i<fs.size:=(Array.getElem?_eq_some_iff.1 hfi).1
    have h4:=(g6 i a _ ha (gi i hi)).2
    have e1:fs.getD i default=f:=by
     have:=(Array.getElem?_eq_some_iff.1 hfi).2
     simp [Array.getD,hi,this]
    have e2:(xs.getD i (.nil,[])).1=d:=by
     have hxi:xs[i]? = some xs[i]:=List.getElem?_eq_getElem (by omega)
     simp [hxi] at hd
     simp [List.getD,hxi,hd]
    rw [e1,e2] at h4
    exact h4
  ·
   rename_i n e hu
   simp only [Bool.and_eq_true] at hp
   have he:e∈S:=memL_iff.1 hp.1
   have hsz:=Nat.eq_of_beq_eq_true hp.2
   unfold DataW.trod at h
   rw [hu] at h
   simp only [Option.ite_none_right_eq_some,Option.map_eq_some_iff,Prod.mk.injEq] at h
   obtain ⟨hcl,xs,hxs,rfl,_⟩:=h
   have hxl:xs.length=n:=by simpa using mapM_some_length hxs
   have hopen:∀ x∈(List.range n).map (fun i=>((e,(cs.drop (i * P.cellsOf e)).take (P.cellsOf e),(xs.getD i (.nil,[])).1):TypeId×List Value×DataW H)),Opens P w x.1 x.2.1 x.2.2:=by
    intro x hx
    obtain ⟨i,hi,rfl⟩:=List.mem_map.1 hx
    have hi:i<n:=by simpa using hi
    have h3:=mapM_some_get hxs i i (by simp [hi])
    have h4:xs[i]? = some ((xs.getD i (.nil,[])).1,(xs.getD i (.nil,[])).2):=by simp [List.getD,List.getElem?_eq_getElem (show i<xs.length by omega)]
    refine open_any hS fuel _ _ _ _ he (h3.trans h4) (fun a ha=>hz a ?_)
    exact List.mem_of_mem_drop (List.mem_of_mem_take ha)
   obtain ⟨μ1,h1,ass,g1,g2,g3,g4,g5,g6⟩:=opens_list _ hopen μ h0 hr hro
   simp only [List.length_map,List.length_range] at g5
   have gi:∀ i,i<n→((List.range n).map (fun i=>((e,(cs.drop (i * P.cellsOf e)).take (P.cellsOf e),(xs.getD i (.nil,[])).1):TypeId×List Value×DataW H)))[i]? = some (e,(cs.drop (i * P.cellsOf e)).take (P.cellsOf e),(xs.getD i (.nil,[])).1):=fun i hi=>by simp [hi]
   refine ⟨μ1,h1,ass.flatten,g1,g2,g3,g4,?_,.array hu (by omega) (by simp [hxl]) fun i a d ha hd=>?_⟩
   ·have h3:VRs μ1 ass.flatten (((List.range n).map fun i=>(cs.drop (i * P.cellsOf e)).take (P.cellsOf e))).flatten:=VRs.flatten (by simp [g5]) fun i a c ha hc=>by
     have hi:i<n:=by have:=(List.getElem?_eq_some_iff.1 ha).1;omega
     have h4:=(g6 i a _ ha (gi i hi)).1
     simp [hi] at hc
     subst hc
     exact h4
    rw [chunks_flatten (P.cellsOf e) n cs (by omega)] at h3
    exact h3
   ·have hi:i<n:=by have:=(List.getElem?_eq_some_iff.1 ha).1;omega
    have h4:=(g6 i a _ ha (gi i hi)).2
    have e2:(xs.getD i (.nil,[])).1=d:=by
     have hxi:xs[i]? = some xs[i]:=List.getElem?_eq_getElem (by omega)
     simp [hxi] at hd
     simp [List.getD,hxi,hd]
    rw [e2] at h4
    exact h4
  ·simp at hp
theorem mapM_range' {β:Type}:∀ (l:List β) (k:Nat) (f:Nat→Option β),(∀ i,i<l.length→f (k+i)=l[i]?)→(List.range' k l.length).mapM f=some l
 | [],k,f,_=>rfl
 | x::r,k,f,h=>by
  have h0:=h 0 (by simp)
  have ih:=mapM_range' r (k+1) f (fun i hi=>by have:=h (i+1) (by simpa using hi);rw [show k+1+i=k+(i+1) by omega];simpa using this)
  simp only [List.length_cons,List.range'_succ,List.mapM_cons]
  simp at h0
  rw [h0,ih]
  rfl
theorem trod_spare {S:List TypeId} (hS:plainB P S=true) {w':World} {sp:Nat→Bool}:∀ (fuel:Nat) (t:TypeId) (cs:List Value) (x:DataW H×List MemPlace),t∈S→DataW.trod enc P w' 0 (fun _=>true) true fuel t cs=some x→
  (∀ p∈x.2,sp p.block=true)→DataW.trod enc P w' 0 sp true fuel t cs=some x
 | 0,t,cs,x,_,h,_=>by simp [DataW.trod] at h
 | fuel+1,t,cs,x,ht,h,hs=>by
  have hp:=List.all_eq_true.1 hS t ht
  unfold plainT at hp
  split at hp
  ·rename_i hu
   obtain ⟨b,rfl,rfl⟩:=DataW.trod_bool hu h
   simp [DataW.trod,hu]
  ·rename_i k hu
   obtain ⟨n,rfl,rfl,hw⟩:=DataW.trod_int hu h
   simp [DataW.trod,hu,hw]
  ·rename_i hu
   obtain ⟨s,rfl,rfl,hw⟩:=DataW.trod_string hu h
   simp [DataW.trod,hu,hw]
  ·rename_i e hu
   simp only [Bool.and_eq_true] at hp
   have he:e∈S:=memL_iff.1 hp.1
   have hn1:1≤P.cellsOf e:=by simpa using hp.2
   rcases DataW.trod_slice hu h with ⟨rfl,rfl⟩ | ⟨a,len,cap,elems,rest,n,hfu,rfl,rfl,hb,hlc,hcm,hlen,hel,hsp,_⟩
   ·simp [DataW.trod,hu]
   ·obtain rfl:fuel=n:=by omega
    obtain ⟨hrl,hre⟩:=hsp rfl
    have one:∀ (i:Nat) (y:DataW H×List MemPlace),y∈elems++rest→
      (w'.cells? 0 (a.add (i * P.cellsOf e)) (P.cellsOf e)).bind (DataW.trod enc P w' 0 (fun _=>true) true fuel e)=some y→(w'.cells? 0 (a.add (i * P.cellsOf e)) (P.cellsOf e)).bind (DataW.trod enc P w' 0 sp true fuel e)=some y:=by
     intro i y hy hv
     simp only [Option.bind_eq_some_iff] at hv ⊢
     obtain ⟨cs',hc',hy'⟩:=hv
     refine ⟨cs',hc',trod_spare hS fuel e cs' y he hy' (fun p hp=>hs p ?_)⟩
     simp only [List.mem_append,List.mem_flatMap]
     right
     exact ⟨y,by simpa using hy,hp⟩
    have tot:∀ {β:Type} (f:Nat→Option β) (l:List β),(∀ i,i<l.length→f i=l[i]?)→(List.range l.length).mapM f=some l:=by
     intro β f l hf
     rw [List.range_eq_range']
     exact mapM_range' l 0 f (fun i hi=>by rw [Nat.zero_add];exact hf i hi)
    have m1:(List.range len).mapM (fun i=>(w'.cells? 0 (a.add (i * P.cellsOf e)) (P.cellsOf e)).bind (DataW.trod enc P w' 0 sp true fuel e))=some elems:=by
     rw [← hlen]
     refine tot _ _ fun i hi=>?_
     have h1:=hel i (by omega)
     rw [List.getElem?_eq_getElem hi] at h1 ⊢
     exact one i _ (by simp) h1
    have m2:(if sp a.block then (List.range (cap-len)).mapM fun j=>(w'.cells? 0 (a.add ((len+j) * P.cellsOf e)) (P.cellsOf e)).bind (DataW.trod enc P w' 0 sp true fuel e) else some [])=some rest:=by
     split
     ·rw [← hrl]
      refine tot _ _ fun i hi=>?_
      have h1:=hre i (by omega)
      rw [List.getElem?_eq_getElem hi] at h1 ⊢
      exact one (len+i) _ (by simp) h1
     ·rename_i hsp
      cases hr0:rest with
      | nil=>rfl
      | cons y r=>
       exfalso
       apply hsp
       refine hs (.cell a.block (a.off+0)) ?_
       simp only [List.mem_append]
       left
       refine MemPlace.mem_row.2 ⟨0,?_,rfl⟩
       rw [hr0]
       simp only [List.length_cons]
       exact Nat.mul_pos (by omega) hn1
    rw [DataW.trod_step]
    unfold DataW.trodStep
    rw [hu]
    simp only [m1,m2,Nat.zero_le,hlc,hcm,and_self,if_true,Option.bind_some,Option.map_some]
  ·rename_i fs hu
   obtain ⟨hfl,hin⟩:True∧∀ f∈fs.toList,f.type∈S:=by
    have:∀ (fs:List Field) (off tot:Nat),tileT P S fs off tot=true→∀ f∈fs,f.type∈S:=by
     intro fs
     induction fs with
     | nil=>intro off tot _ f hf;simp at hf
     | cons f r ih=>
      intro off tot h g hg
      simp only [tileT,Bool.and_eq_true] at h
      rcases List.mem_cons.1 hg with rfl | hg
      ·exact memL_iff.1 h.1.2
      ·exact ih _ _ h.2 g hg
    exact ⟨trivial,this _ _ _ hp⟩
   rw [DataW.trod_step] at h ⊢
   unfold DataW.trodStep at h ⊢
   rw [hu] at h ⊢
   simp only [Option.ite_none_right_eq_some,Option.map_eq_some_iff] at h ⊢
   obtain ⟨hc,xs,hx,rfl⟩:=h
   exact ⟨hc,xs,mapM_carry hx (fun f y hf hy hv=>trod_spare hS fuel _ _ y (hin f hf) hv (fun p hp=>hs p (List.mem_flatMap.2 ⟨y,hy,hp⟩))),rfl⟩
  ·rename_i n e hu
   simp only [Bool.and_eq_true] at hp
   have he:e∈S:=memL_iff.1 hp.1
   rw [DataW.trod_step] at h ⊢
   unfold DataW.trodStep at h ⊢
   rw [hu] at h ⊢
   simp only [Option.ite_none_right_eq_some,Option.map_eq_some_iff] at h ⊢
   obtain ⟨hc,xs,hx,rfl⟩:=h
   exact ⟨hc,xs,mapM_carry hx (fun f y hf hy hv=>trod_spare hS fuel _ _ y he hv (fun p hp=>hs p (List.mem_flatMap.2 ⟨y,hy,hp⟩))),rfl⟩
  ·simp at hp
theorem trodAll_again {S:List TypeId} (hS:plainB P S=true) {w':World} {sp:Nat→Bool}:∀ {ts:List TypeId} {vs:List Value} {ds:List (DataW H)} {ps:List MemPlace},(∀ t∈ts,t∈S)→DataW.TrodAll enc P w 0 (fun _=>true) true ts vs ds ps→
  (∀ p∈ps,w.sameAt w' p)→(∀ p∈ps,sp p.block=true)→DataW.TrodAll enc P w' 0 sp true ts vs ds ps
 | [],[],[],ps,_,h,_,_=>h
 | t::ts,v::vs,d::ds,ps,hS',h,h1,h2=>by
  obtain ⟨p,q,⟨fuel,h3⟩,h4,rfl⟩:=h
  refine ⟨p,q,⟨fuel,?_⟩,trodAll_again hS (fun t ht=>hS' t (List.mem_cons_of_mem _ ht)) h4 (fun x hx=>h1 x (by simp [hx])) (fun x hx=>h2 x (by simp [hx])),rfl⟩
  exact trod_spare hS fuel t _ _ (hS' t List.mem_cons_self) (DataW.trod_carry fuel _ _ _ h3 fun x hx=>h1 x (by simp [hx])) (fun x hx=>h2 x (by simp at hx;simp [hx]))
 | [],_::_,_,_,_,h,_,_=>by simp [DataW.TrodAll] at h
 | [],[],_::_,_,_,h,_,_=>by simp [DataW.TrodAll] at h
 | _::_,[],_,_,_,h,_,_=>by simp [DataW.TrodAll] at h
 | _::_,_::_,[],_,_,h,_,_=>by simp [DataW.TrodAll] at h
def argOf (P:Program) (t:TypeId) (cs:List AV):AV:=
 match P.underlying t with
 | some (.struct _)=>.agg cs
 | some (.array _ _)=>.agg cs
 | _=>cs.headD undefA
def RdArgs (P:Program) (h:Heap):List TypeId→List AV→List (DataW H)→Prop
 | [],[],[]=>True
 | t::ts,a::as,d::ds=>(∃ cs,a=argOf P t cs∧Rd P h t cs d)∧RdArgs P h ts as ds
 | _,_,_=>False
theorem row_of_okCell {r:Reach} {b:Nat} {u:TypeId} {a:Addr} {n m:Nat} (h:Cell.okWide P w r b u (.slice (some a) n m)):hasRow w:=by
 unfold Cell.okWide at h
 split at h <;> try (rename_i heq;cases heq)
 unfold Cell.ok at h
 split at h <;> try (rename_i heq;cases heq)
 all_goals first | (obtain ⟨_,_,_,_,row,cells,hs,_⟩:=h;exact ⟨_,_,_,hs⟩) | (exfalso;simp_all;done) | skip
theorem row_of_okWide {t:TypeId} {v:Value} {a:Addr} (h:Value.okWide P w .any bs t v) (hm:.slice (some a) 0 0∈v.cells.toList):hasRow w:=by
 unfold Value.okWide at h
 have single:∀ {v:Value},(∀ cs,v≠.agg cs)→.slice (some a) 0 0∈v.cells.toList→v=.slice (some a) 0 0:=by
  intro v hv hm
  have hc:v.cells.toList=[v]:=by
   cases v with
   | agg cs=>exact absurd rfl (hv cs)
   | _=>rfl
  rw [hc] at hm
  exact (List.mem_singleton.1 hm).symm
 have isRow:∀ {cs:Array Value},Row.okWide P w .any bs t cs→.slice (some a) 0 0∈cs.toList→hasRow w:=by
  rintro cs ⟨ts,_,_,h⟩ hm
  obtain ⟨i,hi⟩:=List.mem_iff_getElem?.1 hm
  obtain ⟨u,_,h3⟩:=h i _ (by simpa using hi)
  exact row_of_okCell h3
 split at h
 ·obtain ⟨cs,rfl,_,h⟩:=h;exact isRow h (by simpa [Value.cells] using hm)
 ·obtain ⟨cs,rfl,_,h⟩:=h;exact isRow h (by simpa [Value.cells] using hm)
 ·rename_i hn1 hn2
  by_cases hv:∃ cs,v=.agg cs
  ·obtain ⟨cs,rfl⟩:=hv
   exfalso
   unfold Cell.okWide at h
   split at h <;> try (rename_i heq;cases heq)
   unfold Cell.ok at h
   split at h <;> try (rename_i heq;cases heq)
   all_goals first | exact h | (simp_all;done)
  ·have:=single (fun cs e=>hv ⟨cs,e⟩) hm
   subst this
   exact row_of_okCell h
theorem arg_of {μ:Mu} {h:Heap} {t:TypeId} {v:Value} {as:List AV} {d:DataW H} (hok:Value.okWide P w .any bs t v) (hv:VRs μ as v.cells.toList) (hr:Rd P h t as d):VR μ (argOf P t as) v:=by
 unfold Value.okWide at hok
 have one:(∀ fs,P.underlying t≠some (.struct fs))→(∀ n e,P.underlying t≠some (.array n e))→∃ x,as=[x]∧argOf P t as=x:=by
  intro h1 h2
  have ha:argOf P t as=as.headD undefA:=by
   unfold argOf;split
   ·rename_i fs hu;exact absurd hu (h1 fs)
   ·rename_i n e hu;exact absurd hu (h2 n e)
   ·rfl
  cases hr with
  | bool hu=>exact ⟨_,rfl,ha⟩
  | int hu=>exact ⟨_,rfl,ha⟩
  | str hu=>exact ⟨_,rfl,ha⟩
  | nil hu=>exact ⟨_,rfl,ha⟩
  | slice hu=>exact ⟨_,rfl,ha⟩
  | struct hu=>exact absurd hu (h1 _)
  | array hu=>exact absurd hu (h2 _ _)
 split at hok
 ·rename_i fs hu
  obtain ⟨cs,rfl,_⟩:=hok
  simp only [argOf,hu,VR]
  exact ⟨cs,rfl,by simpa [Value.cells] using hv⟩
 ·rename_i n e hu
  obtain ⟨cs,rfl,_⟩:=hok
  simp only [argOf,hu,VR]
  exact ⟨cs,rfl,by simpa [Value.cells] using hv⟩
 ·rename_i h1 h2
  obtain ⟨x,rfl,hx⟩:=one h1 h2
  rw [hx]
  have hna:∀ cs,v≠.agg cs:=by
   rintro cs rfl
   unfold Cell.okWide at hok
   split at hok <;> try (rename_i heq;cases heq)
   unfold Cell.ok at hok
   split at hok <;> try (rename_i heq;cases heq)
   all_goals first | exact hok | (simp_all;done)
  have hc:v.cells.toList=[v]:=by
   cases v with
   | agg cs=>exact absurd rfl (hna cs)
   | _=>rfl
  rw [hc] at hv
  simp only [VRs] at hv
  obtain ⟨y,ys,h3,h4,_⟩:=hv
  cases h3;exact h4
theorem open_args {S:List TypeId} (hS:plainB P S=true):∀ {ts:List TypeId} {vs:List Value} {ds:List (DataW H)} {ps:List MemPlace},(∀ t∈ts,t∈S)→DataW.TrodAll enc P w 0 (fun _=>true) true ts vs ds ps→
  (∀ (j:Nat) t v,ts[j]? = some t→vs[j]? = some v→Value.okWide P w .any bs t v)→∀ μ h,HR μ h w→Rof h→
  ∃ μ' h' as,μ.le μ'∧HLe h h'∧HR μ' h' w∧Rof h'∧VRs μ' as vs∧RdArgs P h' ts as ds
 | [],[],[],ps,_,_,_,μ,h,hr,hro=>⟨μ,h,[],Mu.le_refl μ,HLe.refl h,hr,hro,VRs.nil,trivial⟩
 | t::ts,v::vs,d::ds,ps,hS',hA,hok,μ,h,hr,hro=>by
  obtain ⟨p,q,⟨fuel,h3⟩,h4,rfl⟩:=hA
  obtain ⟨μ1,h1,as,g1,g2,g3,g4,g5,g6⟩:=open_any hS fuel t _ d p (hS' t List.mem_cons_self) h3 (fun a ha=>row_of_okWide (hok 0 t v rfl rfl) ha) μ h hr hro
  obtain ⟨μ2,h2,ass,k1,k2,k3,k4,k5,k6⟩:=open_args hS (fun t ht=>hS' t (List.mem_cons_of_mem _ ht)) h4 (fun j t v h5 h6=>hok (j+1) t v (by simpa using h5) (by simpa using h6)) μ1 h1 g3 g4
  exact ⟨μ2,h2,argOf P t as::ass,fun A l hA=>k1 A l (g1 A l hA),g2.trans k2,k3,k4,VRs.cons (VR.mono k1 _ _ (arg_of (hok 0 t v rfl rfl) g5 g6)) k5,⟨as,rfl,g6.mono k2⟩,k6⟩
 | [],_::_,_,_,_,h,_,_,_,_,_=>by simp [DataW.TrodAll] at h
 | [],[],_::_,_,_,h,_,_,_,_,_=>by simp [DataW.TrodAll] at h
 | _::_,[],_,_,_,h,_,_,_,_,_=>by simp [DataW.TrodAll] at h
 | _::_,_::_,[],_,_,h,_,_,_,_,_=>by simp [DataW.TrodAll] at h
theorem Rof.ext_below {h:Heap} (hro:Rof h) {μ μ':Mu} {h':Heap} {w':World} (hx:Ext μ h w μ' h' w'):Below w.heap.size w w':=
 ⟨hx.os,hx.tape,hx.output,hx.size,fun k hk=>hx.frame k hk fun A l _ _ hw=>by
  obtain ⟨b,h1,h2⟩:=hw
  obtain ⟨cs,rfl⟩:=hro.ro A b h1
  cases h2⟩
theorem law_true {S:List TypeId} (hS:plainB P S=true) {f:FuncId} {ts:List TypeId} (hts:∀ t∈ts,t∈S) {l:List VTy} {F:vdens l→Heap→Option (Bool×Heap)} (hF:FnOK P f l (.val (.one .bool)) F)
  (hlaw:∀ (h:Heap) (as:List AV) (ds:List (DataW H)),Rof h→RdArgs P h ts as ds→∃ xs h',VTy.tos l xs=as∧F xs h=some (true,h'))
  {args:Array Value} {ds:List (DataW H)} {ps:List MemPlace} (hA:DataW.TrodAll enc P w 0 (fun _=>true) true ts args.toList ds ps)
  (hok:∀ (j:Nat) t v,ts[j]? = some t→args[j]? = some v→Value.okWide P w .any bs t v) :
  Calls P f args w fun e w'=>e=.returned (.bool true)∧Below w.heap.size w w':=by
 obtain ⟨μ,h,as,_,_,hr,hro,hv,hrd⟩:=open_args hS hts hA (fun j t v h1 h2=>hok j t v h1 (by simpa using h2)) (fun _=>none) emptyH (emptyHR w) ⟨fun A b h=>(by cases h),fun A _=>by simp [emptyH,Tr.get_nil]⟩
 obtain ⟨xs,h',rfl,hx⟩:=hlaw h as ds hro hrd
 refine (hF xs h true h' hx μ w args hr hv).2.mono ?_
 rintro e w' ⟨u,rfl,μ',h1,_,h3⟩
 simp only [Ty.to,VTy.to,CTy.to,VR] at h1
 exact ⟨by rw [h1],hro.ext_below h3⟩
end
end Ai
namespace Ai
variable [IntT]
open Go.WideShapes Go.ChangeShapes Go.ChangeAt Go.RowKit
open Go.RowKit (Below)
variable {H:Type} {enc:TypeId×Value→H} {P:Program} {bs:Nat}
theorem below_same {ts:List TypeId} {vars:List String} {apart:Bool} {W W':World} {vs:List Value} {ds gs:List (DataW H)} {ps:List MemPlace} (hW:DataW.Whole enc P ts vars apart W vs ds gs ps) (hb:Below W.heap.size W W'):∀ p∈ps,W.sameAt W' p:=by
 intro p hp
 have hlt:=hW.lt p hp
 cases p with
 | cell b off=>exact hb.cell (p:=⟨b,off,none⟩) hlt
 | map b=>exact hb.block b hlt
theorem law_post {S:List TypeId} (hS:plainB P S=true) {f:Func} {s:ChangeSpec} {apart fresh handsOn again:Bool} (hts:∀ t∈f.params.toList,t∈S) (hvars:s.vars=[]) {n:Nat} (hn:f.params.toList.length=n)
  (hspec:∀ ds:List (DataW H),ds.length=n→s.fn H ds = { results:=[.lit (.bool true)],args:=ds }) {tb:TypeId} (hres:f.resultTypes.toList=[tb]) (hsz:f.resultTypes.size=1) (htb:P.underlying tb=some .bool)
  {W:World} {args:Array Value} {ds gs:List (DataW H)} {before:List MemPlace} (hW:DataW.Whole enc P f.params.toList s.vars apart W args.toList ds gs before)
  {W':World} (hb:Below W.heap.size W W')
  (hok:∀ (j:Nat) (t:TypeId) (r:Value),f.resultTypes[j]? = some t→((Value.bool true).resultList f.resultTypes.size)[j]? = some r→Value.okWide P W' .any 0 t r) :
  s.post enc P f apart fresh handsOn again W args (.bool true) W':=by
 have hW':=hW
 obtain ⟨p,q,hA,hV,rfl,hfz,hnd⟩:=hW
 rw [hvars] at hV
 obtain ⟨rfl,rfl⟩:=trodVars_none hV
 have hlen:ds.length=n:=by
  have:∀ {ts:List TypeId} {vs:List Value} {ds:List (DataW H)} {ps:List MemPlace},DataW.TrodAll enc P W 0 (fun _=>true) true ts vs ds ps→ds.length=ts.length:=by
   intro ts
   induction ts with
   | nil=>intro vs ds ps h;cases vs <;> cases ds <;> simp [DataW.TrodAll] at h ⊢
   | cons t ts ih=>
    intro vs ds ps h
    cases vs <;> cases ds <;> simp [DataW.TrodAll] at h ⊢
    obtain ⟨_,_,_,h2,_⟩:=h
    exact ih h2
  exact (this hA).trans hn
 have hsp:s.fn H (ds++[]) = { results:=[.lit (.bool true)],args:=ds }:=by rw [List.append_nil];exact hspec ds hlen
 have hres':(Value.bool true).resultList f.resultTypes.size=[.bool true]:=by rw [hsz];rfl
 refine post_of_below (pa:=p) (pv:=[]) hW' ?_ ?_ ?_ rfl hb hok
 ·intro b sp hd
  rw [hsp,hres',hres]
  exact trodAll_cons_mk (shut_bool htb _) trodAll_mk0
 ·intro sp hs
  rw [hsp]
  refine trodAll_again hS hts hA (fun x hx=>below_same hW' hb x (by simp [hx])) (fun x hx=>hs x (by simp [hx]))
 ·intro sp hs
  rw [hsp,hvars]
  rfl
end Ai
namespace Ai
variable [IntT]
open Go.ChangeShapes Go.WideShapes
section
variable {H:Type} {P:Program} {h h':Heap}
theorem Rd.int_inv {t:TypeId} {k:IntKind} {as:List AV} {d:DataW H} (hu:P.underlying t=some (.int k)) (hx:Rd P h t as d):∃ n,as=[.int k n]∧d=.lit (.int k n)∧k.min≤n∧n≤k.max:=by
 cases hx with
 | int h1 h2=>
  rw [hu] at h1;simp only [Option.some.injEq,TypeDesc.int.injEq] at h1;subst h1
  simp only [Lit.wf,Bool.and_eq_true,decide_eq_true_eq] at h2
  exact ⟨_,rfl,rfl,h2.1,h2.2⟩
 | _=>simp_all
theorem Rd.str_inv {t:TypeId} {as:List AV} {d:DataW H} (hu:P.underlying t=some .string) (hx:Rd P h t as d):∃ s,as=[.str s]∧d=.lit (.string s)∧s.length≤9223372036854775807:=by
 cases hx with
 | str h1 h2=>exact ⟨_,rfl,rfl,h2⟩
 | _=>simp_all
theorem Rd.slice_inv {t e:TypeId} {as:List AV} {d:DataW H} (hu:P.underlying t=some (.slice e)) (hx:Rd P h t as d):(as=[.slice none 0 0 0]∧d=.nil)∨
  ∃ (A:Nat) (ass:List (List AV)) (ds sp:List (DataW H)),as=[.slice (some (A,0)) ds.length ds.length (P.cellsOf e)]∧d=.slice ds sp∧h.t.get A=some (.row ass.flatten .ro)∧A<h.next∧ds.length≤9223372036854775807∧ass.length=ds.length∧
   (∀ (i:Nat) (a:List AV) (d:DataW H),ass[i]? = some a→ds[i]? = some d→Rd P h e a d):=by
 cases hx with
 | nil h1=>exact .inl ⟨rfl,rfl⟩
 | slice h1 h2 h3 h4 h5 h6=>
  rw [hu] at h1;simp only [Option.some.injEq,TypeDesc.slice.injEq] at h1;subst h1
  exact .inr ⟨_,_,_,_,rfl,rfl,h2,h3,h4,h5,h6⟩
 | _=>simp_all
theorem Rd.struct_inv {t:TypeId} {fs:Array Field} {as:List AV} {d:DataW H} (hu:P.underlying t=some (.struct fs)) (hx:Rd P h t as d) :
  ∃ (ass:List (List AV)) (ds:List (DataW H)),as=ass.flatten∧d=.agg ds∧ass.length=fs.size∧ds.length=fs.size∧(∀ (i:Nat) (f:Field) (a:List AV) (d:DataW H),fs[i]? = some f→ass[i]? = some a→ds[i]? = some d→Rd P h f.type a d):=by
 cases hx with
 | struct h1 h2 h3 h4=>
  rw [hu] at h1;simp only [Option.some.injEq,TypeDesc.struct.injEq] at h1;subst h1
  exact ⟨_,_,rfl,rfl,h2,h3,h4⟩
 | _=>simp_all
theorem argOf_one {t:TypeId} (h1:∀ fs,P.underlying t≠some (.struct fs)) (h2:∀ n e,P.underlying t≠some (.array n e)) (v:AV):argOf P t [v]=v:=by
 unfold argOf
 split
 ·rename_i fs hu;exact absurd hu (h1 fs)
 ·rename_i n e hu;exact absurd hu (h2 n e)
 ·rfl
theorem argOf_struct {t:TypeId} {fs:Array Field} (h1:P.underlying t=some (.struct fs)) (cs:List AV):argOf P t cs=.agg cs:=by
 unfold argOf;rw [h1]
def SL.at (s:SL) (i n:Nat):Nat×Nat:=((s.a.getD (0,0)).1,(s.a.getD (0,0)).2+i * n)
theorem ixK_at {β:Type} {s:SL} {i n:Nat} (hs:s.a.isSome=true) (hi:i<s.len) (K:Nat×Nat→Option β):ixK s.a s.len (i:Int) n K=K (s.at i n):=by
 have hb:Nat.blt i s.len=true:=by simpa [Nat.blt_eq] using hi
 obtain ⟨q,hq⟩:=Option.isSome_iff_exists.1 hs
 show (match (Int.ofNat i) with | .ofNat j=>bif Nat.blt j s.len then need s.a fun q=>K (q.1,q.2+j * n) else none | .negSucc _=>none)=_
 simp only [hb,cond_true,hq,need_some,SL.at,Option.getD_some]
theorem ixK_z {β:Type} {s:SL} {x:Int} {n:Nat} (hs:s.a.isSome=true) (h0:0≤x) (hi:x<s.len) (K:Nat×Nat→Option β):ixK s.a s.len x n K=K (s.at x.toNat n):=by
 obtain ⟨i,rfl⟩:=Int.eq_ofNat_of_zero_le h0
 exact ixK_at hs (by omega) K
def rowB:Option Blk→Option (List AV)
 | some (.row cs .own)=>some cs
 | some (.row cs .grown)=>some cs
 | some (.row cs (.bytes _))=>some cs
 | some (.row cs (.ty _))=>some cs
 | some (.row cs .ro)=>some cs
 | _=>none
theorem cellB_row (b:Option Blk) (i:Nat):cellB b i=(rowB b).bind fun cs=>cs[i]?:=by
 unfold cellB rowB
 split <;> simp [List.head?_drop]
theorem cellsB_row (b:Option Blk) (i n:Nat):cellsB b i n=(rowB b).bind fun cs=>(takeN n (cs.drop i)).map AV.agg:=by
 unfold cellsB rowB;split <;> simp
def Sees (h:Heap) (s:SL) (vs:List AV):Prop:=
 vs.length=s.len * s.sz∧(s.a=none→s.len=0)∧∀ A off,s.a=some (A,off)→A<h.next∧∃ cs,rowB (h.g A)=some cs∧(cs.drop off).take vs.length=vs
theorem Sees.isSome {s:SL} {vs:List AV} (hx:Sees h s vs) (hl:0<s.len):s.a.isSome=true:=by
 cases ha:s.a with
 | none=>have:=hx.2.1 ha;omega
 | some q=>rfl
theorem Sees.cell {s:SL} {vs:List AV} (hx:Sees h s vs) (h1:s.sz=1) {i:Nat} (hi:i<s.len):h.cell (s.at i 1)=vs[i]?:=by
 obtain ⟨h2,h3,h4⟩:=hx
 cases ha:s.a with
 | none=>have:=h3 ha;omega
 | some q=>
  obtain ⟨A,off⟩:=q
  obtain ⟨_,cs,h5,h6⟩:=h4 A off ha
  rw [h1,Nat.mul_one] at h2
  simp only [SL.at,ha,Option.getD_some,Heap.cell_g,cellB_row,h5,Option.bind_some,Nat.mul_one]
  rw [← h6,List.getElem?_take,List.getElem?_drop,if_pos (by omega)]
theorem Sees.cells {s:SL} {vs:List AV} (hx:Sees h s vs) {n:Nat} (h1:s.sz=n) {i:Nat} (hi:i<s.len):h.cells (s.at i n) n=some (.agg ((vs.drop (i * n)).take n)):=by
 obtain ⟨h2,h3,h4⟩:=hx
 subst h1
 cases ha:s.a with
 | none=>have:=h3 ha;omega
 | some q=>
  obtain ⟨A,off⟩:=q
  obtain ⟨_,cs,h5,h6⟩:=h4 A off ha
  have hle:i * s.sz+s.sz≤s.len * s.sz:=by
   rw [← Nat.succ_mul];exact Nat.mul_le_mul_right _ hi
  have hlen:((cs.drop off).take vs.length).length=vs.length:=by rw [h6]
  rw [List.length_take,List.length_drop] at hlen
  simp only [SL.at,ha,Option.getD_some,Heap.cells_g,cellsB_row,h5,Option.bind_some]
  have ht:∀ (n:Nat) (l:List AV),n≤l.length→takeN n l=some (l.take n):=by
   intro n
   induction n with
   | zero=>intro l _;cases l <;> rfl
   | succ n ih=>
    intro l hl
    cases l with
    | nil=>simp at hl
    | cons x r=>simp only [takeN,ih r (by simpa using hl),List.take_succ_cons]
  rw [ht _ _ (by rw [List.length_drop];omega)]
  simp only [Option.map_some,Option.some.injEq,AV.agg.injEq]
  rw [← h6,List.drop_take,List.take_take,List.drop_drop,Nat.min_eq_left (by omega)]
structure Keep (B:Nat) (h h':Heap):Prop where
 g:∀ A,A<B→h'.g A=h.g A
 next:h.next≤h'.next
theorem Sees.nil (h:Heap):Sees h ⟨none,0,0,0⟩ []:=⟨rfl,fun _=>rfl,fun A off ha=>by simp at ha⟩
theorem Rd.sees {t e:TypeId} {as:List AV} {d:DataW H} (hu:P.underlying t=some (.slice e)) (hl:∀ a (d:DataW H),Rd P h e a d→a.length=P.cellsOf e) (hx:Rd P h t as d) :
  ∃ (s:SL) (ass:List (List AV)),as=[.slice s.a s.len s.cap s.sz]∧ass.length=s.len∧s.len≤9223372036854775807∧(s.sz=P.cellsOf e∨s.len=0)∧Sees h s ass.flatten∧∀ (i:Nat) (a:List AV),ass[i]? = some a→∃ d:DataW H,Rd P h e a d:=by
 rcases Rd.slice_inv hu hx with ⟨rfl,_⟩ | ⟨A,ass,ds,sp,rfl,_,h1,h2,h3,h4,h5⟩
 ·exact ⟨⟨none,0,0,0⟩,[],rfl,rfl,by simp,.inr rfl,Sees.nil h,fun i a ha=>by simp at ha⟩
 ·have hd:∀ (i:Nat) (a:List AV),ass[i]? = some a→∃ d:DataW H,Rd P h e a d:=by
   intro i a ha
   have hi:i<ds.length:=by have:=(List.getElem?_eq_some_iff.1 ha).1;omega
   exact ⟨ds[i],h5 i a _ ha (List.getElem?_eq_getElem hi)⟩
  refine ⟨⟨some (A,0),ds.length,ds.length,P.cellsOf e⟩,ass,rfl,h4,h3,.inl rfl,⟨?_,fun ha=>by simp at ha,fun A' off ha=>?_⟩,hd⟩
  ·have:∀ (l:List (List AV)),(∀ a∈l,a.length=P.cellsOf e)→l.flatten.length=l.length * P.cellsOf e:=by
    intro l
    induction l with
    | nil=>intro _;simp
    | cons a r ih=>intro hl;rw [List.flatten_cons,List.length_append,ih (fun x hx=>hl x (by simp [hx])),hl a (by simp),List.length_cons,Nat.succ_mul,Nat.add_comm]
   rw [this ass ?_,h4]
   intro a ha
   obtain ⟨i,hi⟩:=List.mem_iff_getElem?.1 ha
   obtain ⟨d,hd⟩:=hd i a hi
   exact hl a d hd
  ·simp only [Option.some.injEq,Prod.mk.injEq] at ha
   obtain ⟨rfl,rfl⟩:=ha
   refine ⟨h2,ass.flatten,?_,by rw [List.drop_zero,List.take_length]⟩
   show rowB (h.t.get A)=_
   rw [h1];rfl
theorem RdArgs.cons_inv {t:TypeId} {ts:List TypeId} {vs:List AV} {ds:List (DataW H)} (hx:RdArgs P h (t::ts) vs ds):∃ cs d vs' ds',vs=argOf P t cs::vs'∧ds=d::ds'∧Rd P h t cs d∧RdArgs P h ts vs' ds':=by
 match vs,ds with
 | a::vs',d::ds'=>obtain ⟨⟨cs,rfl,h1⟩,h2⟩:=hx;exact ⟨cs,d,vs',ds',rfl,rfl,h1,h2⟩
 | [],_=>simp [RdArgs] at hx
 | _::_,[]=>simp [RdArgs] at hx
theorem RdArgs.nil_inv {vs:List AV} {ds:List (DataW H)} (hx:RdArgs P h [] vs ds):vs=[]∧ds=[]:=by
 match vs,ds with
 | [],[]=>exact ⟨rfl,rfl⟩
 | _::_,_=>simp [RdArgs] at hx
 | [],_::_=>simp [RdArgs] at hx
end
end Ai
namespace Ai
variable [IntT]
def SL.av (s:SL):AV:=.slice s.a s.len s.cap s.sz
def SL.blk (s:SL):Option Nat:=s.a.map (·.1)
def One (h:Heap) (s:SL) (vs:List AV):Prop:=s.len=vs.length∧(s.sz=1∨s.len=0)∧Sees h s vs
section
variable {h h':Heap} {s:SL} {vs:List AV} {B:Nat}
theorem One.ixz {β:Type} (hs:One h s vs) {x:Int} (h0:0≤x) (h1:x<vs.length) (K:Nat×Nat→Option β):ixK s.a s.len x 1 K=K (s.at x.toNat 1):=
 ixK_z (hs.2.2.isSome (by have:=hs.1;omega)) h0 (by have:=hs.1;omega) K
theorem One.cell (hs:One h s vs) {i:Nat} (hi:i<vs.length):h.cell (s.at i 1)=some vs[i]:=by
 have h1:=hs.1
 rw [hs.2.2.cell (by rcases hs.2.1 with h2 | h2 <;> omega) (by omega)]
 exact List.getElem?_eq_getElem hi
structure But (o:Option Nat) (h h':Heap):Prop where
 g:∀ A,A<h.next→o≠some A→h'.g A=h.g A
 next:h.next≤h'.next
structure App1 (E:Env) (st e:TypeId):Prop where
 und:E.und st=some (.slice e)
 info:∃ i,E.info e=some i∧i.size=1∧i.bytes≤1000
 zero:∃ z,E.zero e=some z∧z.cells.length=1
theorem takeN_of:∀ (n:Nat) (l:List AV),n≤l.length→takeN n l=some (l.take n)
 | 0,l,_=>by cases l <;> rfl
 | n+1,[],h=>by simp at h
 | n+1,x::r,h=>by simp only [takeN,takeN_of n r (by simpa using h),List.take_succ_cons]
theorem over_one:∀ (n:Nat) (cs:List AV) (v:AV),n<cs.length→over n cs [v]=some (cs.set n v)
 | 0,c::cs,v,_=>by rw [over_zero,over_nil];rfl
 | n+1,c::cs,v,h=>by rw [over_succ,over_one n cs v (by simpa using h)];rfl
 | _,[],_,h=>by simp at h
end
end Ai
namespace Ai
variable [IntT]
section
variable {h h':Heap} {s x:SL} {vs ws:List AV} {B:Nat}
theorem over_many:∀ (n:Nat) (cs ws:List AV),n+ws.length≤cs.length→over n cs ws=some (cs.take n++ws++cs.drop (n+ws.length))
 | n,cs,[],h=>by rw [over_nil];simp
 | 0,[],w::ws,h=>by simp at h
 | n+1,[],w::ws,h=>by simp at h
 | 0,c::cs,w::ws,h=>by
  rw [over_zero,over_many 0 cs ws (by simpa using h)]
  simp
 | n+1,c::cs,w::ws,h=>by
  rw [over_succ,over_many n cs (w::ws) (by simp at h ⊢;omega)]
  simp only [Option.map_some,List.take_succ_cons,List.cons_append,List.length_cons,Option.some.injEq,List.cons.injEq,true_and]
  rw [show n+1+(ws.length+1)=(n+(ws.length+1))+1 by omega,List.drop_succ_cons]
theorem row_of_rowB (A:Nat) {cs:List AV} (hr:rowB (h.g A)=some cs):h.row A=some cs:=by
 unfold Heap.g at hr
 unfold Heap.row
 revert hr
 cases h.t.get A with
 | none=>intro hr;simp [rowB] at hr
 | some b=>
  cases b with
  | row cs' st=>cases st <;> simp [rowB]
  | _=>intro hr;simp [rowB] at hr
theorem One.first (hx:One h x ws):firstCellsA h 1 x.len (.slice x.a x.len x.cap x.sz)=some ws:=by
 obtain ⟨h1,h2,h3,h4,h5⟩:=hx
 cases ha:x.a with
 | none=>
  have hl:ws.length=0:=by have:=h4 ha;omega
  have:ws=[]:=List.length_eq_zero_iff.1 hl
  subst this;rfl
 | some q=>
  obtain ⟨A,off⟩:=q
  obtain ⟨h6,cs,h7,h8⟩:=h5 A off ha
  have hlen:((cs.drop off).take ws.length).length=ws.length:=by rw [h8]
  rw [List.length_take] at hlen
  simp only [firstCellsA,Heap.read,row_of_rowB A h7,Nat.mul_one]
  rw [takeN_of _ _ (by omega),h1,h8]
end
end Ai
namespace Ai
variable [IntT]
section
variable {P:Program}
def natsOf (L:List FuncId) (C:CallK) (nat:FuncId→Option (List AV→Heap→Option (AV×Heap))):FuncId→Option (List AV→Heap→Option (AV×Heap)):=
 fun f=>bif memL f L then some (fun args h=>callOf C f args h) else nat f
theorem natsOf_ok {L:List FuncId} {C:CallK} {nat:FuncId→Option (List AV→Heap→Option (AV×Heap))} {cmp cmp':List TypeId} (hC:CallKOK P C) (hn:NativeOK (envOf P cmp nat) P):NativeOK (envOf P cmp' (natsOf L C nat)) P:=by
 intro f g hg args h v h' hx μ w args' hr hv
 have hg':natsOf L C nat f=some g:=hg
 unfold natsOf at hg'
 cases hm:memL f L with
 | true=>
  rw [hm,cond_true] at hg'
  simp only [Option.some.injEq] at hg'
  subst hg'
  exact hC.ok f args h v h' hx μ w args' hr hv
 | false=>
  rw [hm,cond_false] at hg'
  exact hn f g hg' args h v h' hx μ w args' hr hv
end
end Ai
namespace Ai
variable [IntT]
open Go.ChangeShapes Go.WideShapes
open Go.RowKit (Below)
section
variable {H:Type} {P:Program} {h:Heap}
def RdF (P:Program) (h:Heap):List TypeId→List (List AV)→List (DataW H)→Prop
 | [],[],[]=>True
 | t::ts,a::as,d::ds=>Rd P h t a d∧RdF P h ts as ds
 | _,_,_=>False
theorem RdF.cons_inv {t:TypeId} {ts:List TypeId} {as:List (List AV)} {ds:List (DataW H)} (hx:RdF P h (t::ts) as ds):∃ a as' d ds',as=a::as'∧ds=d::ds'∧Rd P h t a d∧RdF P h ts as' ds':=by
 match as,ds with
 | a::as',d::ds'=>exact ⟨a,as',d,ds',rfl,rfl,hx.1,hx.2⟩
 | [],_=>simp [RdF] at hx
 | _::_,[]=>simp [RdF] at hx
theorem RdF.nil_inv {as:List (List AV)} {ds:List (DataW H)} (hx:RdF P h [] as ds):as=[]∧ds=[]:=by
 match as,ds with
 | [],[]=>exact ⟨rfl,rfl⟩
 | _::_,_=>simp [RdF] at hx
 | [],_::_=>simp [RdF] at hx
theorem RdF.of:∀ {ts:List TypeId} {as:List (List AV)} {ds:List (DataW H)},as.length=ts.length→ds.length=ts.length→(∀ (i:Nat) t a d,ts[i]? = some t→as[i]? = some a→ds[i]? = some d→Rd P h t a d)→RdF P h ts as ds
 | [],[],[],_,_,_=>trivial
 | t::ts,a::as,d::ds,h1,h2,h3=>⟨h3 0 t a d rfl rfl rfl,RdF.of (by simpa using h1) (by simpa using h2) fun i t a d x y z=>h3 (i+1) t a d (by simpa using x) (by simpa using y) (by simpa using z)⟩
 | [],_::_,_,h1,_,_=>by simp at h1
 | [],[],_::_,_,h2,_=>by simp at h2
 | _::_,[],_,h1,_,_=>by simp at h1
 | _::_,_::_,[],_,h2,_=>by simp at h2
def isStruct (P:Program) (t:TypeId) (ts:List TypeId):Bool:=match P.underlying t with
 | some (.struct fs)=>decide (fs.toList.map (·.type)=ts)
 | _=>false
theorem Rd.fields {t:TypeId} {ts:List TypeId} (hu:isStruct P t ts=true) {as:List AV} {d:DataW H} (hx:Rd P h t as d):∃ ass ds,as=ass.flatten∧d=.agg ds∧RdF P h ts ass ds:=by
 unfold isStruct at hu
 split at hu
 ·rename_i fs hf
  have hts:=of_decide_eq_true hu
  obtain ⟨ass,ds,rfl,rfl,h1,h2,h3⟩:=Rd.struct_inv hf hx
  refine ⟨ass,ds,rfl,rfl,RdF.of ?_ ?_ ?_⟩
  ·rw [← hts,List.length_map,h1];simp
  ·rw [← hts,List.length_map,h2];simp
  ·intro i t a d ht ha hd
   rw [← hts,List.getElem?_map] at ht
   cases hq:fs.toList[i]? with
   | none=>rw [hq] at ht;cases ht
   | some f=>
    rw [hq] at ht
    simp only [Option.map_some,Option.some.injEq] at ht
    subst ht
    exact h3 i f a d (by rw [← hq];simp) ha hd
 ·cases hu
theorem law_at {enc:TypeId×Value→H} {w:World} {bs:Nat} {S:List TypeId} (hS:plainB P S=true) {f:FuncId} {ts:List TypeId} (hts:∀ t∈ts,t∈S) {l:List VTy} {F:vdens l→Heap→Option (Bool×Heap)} (hF:FnOK P f l (.val (.one .bool)) F)
  {args:Array Value} {ds:List (DataW H)} {ps:List MemPlace}
  (hlaw:∀ (h:Heap) (vs:List AV),Rof h→RdArgs P h ts vs ds→∃ xs h',VTy.tos l xs=vs∧F xs h=some (true,h'))
  (hA:DataW.TrodAll enc P w 0 (fun _=>true) true ts args.toList ds ps)
  (hok:∀ (j:Nat) t v,ts[j]? = some t→args[j]? = some v→Value.okWide P w .any bs t v) :
  Calls P f args w fun e w'=>e=.returned (.bool true)∧Below w.heap.size w w':=by
 obtain ⟨μ,h,vs,_,hle,hr,hro,hv,hrd⟩:=open_args hS hts hA (fun j t v h1 h2=>hok j t v h1 (by simpa using h2)) (fun _=>none) emptyH (emptyHR w) ⟨fun A b h=>(by cases h),fun A _=>by simp [emptyH,Tr.get_nil]⟩
 obtain ⟨xs,h',rfl,hx⟩:=hlaw h vs hro hrd
 refine (hF xs h true h' hx μ w args hr hv).2.mono ?_
 rintro e w' ⟨u,rfl,μ',h1,_,h3⟩
 simp only [Ty.to,VTy.to,CTy.to,VR] at h1
 exact ⟨by rw [h1],hro.ext_below h3⟩
end
end Ai
namespace Ai
variable [IntT]
open Go.ChangeShapes Go.WideShapes
inductive D where
 | b (x:Bool) | i (n:Int) | s (x:List UInt8) | l (xs:List D) | t (xs:List D)
mutual
def Dt (h:Heap) (V:Nat→Prop):D→List AV→Prop
 | .b x,cs=>cs=[.bool x]
 | .i n,cs=>cs=[.int .i64 n]
 | .s x,cs=>cs=[.str x]
 | .l xs,cs=>∃ (s:SL) (vs:List AV),cs=[s.av]∧s.len=xs.length∧s.len≤s.cap∧(∀ A,s.blk=some A→V A)∧Sees h s vs∧De h V s.sz xs vs
 | .t xs,cs=>Dp h V xs cs
def Dp (h:Heap) (V:Nat→Prop):List D→List AV→Prop
 | [],cs=>cs=[]
 | x::r,cs=>∃ a b,cs=a++b∧Dt h V x a∧Dp h V r b
def De (h:Heap) (V:Nat→Prop) (n:Nat):List D→List AV→Prop
 | [],cs=>cs=[]
 | x::r,cs=>∃ a b,cs=a++b∧a.length=n∧Dt h V x a∧De h V n r b
end
structure Sl (h:Heap) (V:Nat→Prop) (s:SL) (xs:List D):Prop where
 len:s.len=xs.length
 cap:s.len≤s.cap
 blk:∀ A,s.blk=some A→V A
 els:∃ vs,Sees h s vs∧De h V s.sz xs vs
structure Chg (M:List Nat) (h h':Heap):Prop where
 g:∀ A,A<h.next→A ∉ M→h'.g A=h.g A
 next:h.next≤h'.next
 pins:h'.pins=h.pins
section
variable {h h' h'':Heap} {V W:Nat→Prop} {M N:List Nat}
theorem Chg.refl (M:List Nat) (h:Heap):Chg M h h:=⟨fun _ _ _=>rfl,Nat.le_refl _,rfl⟩
theorem Chg.trans (x:Chg M h h') (y:Chg M h' h''):Chg M h h'':=⟨fun A hA hM=>(y.g A (Nat.lt_of_lt_of_le hA x.next) hM).trans (x.g A hA hM),Nat.le_trans x.next y.next,y.pins.trans x.pins⟩
theorem Chg.mono (x:Chg M h h') (hs:∀ A,A∈M→A∈N):Chg N h h':=⟨fun A hA hM=>x.g A hA (fun e=>hM (hs A e)),x.next,x.pins⟩
theorem Chg.step (x:Chg N h h') (y:Chg M h' h'') (hs:∀ A,A∈M→A<h.next→A∈N):Chg N h h'':=⟨fun A hA hM=>(y.g A (Nat.lt_of_lt_of_le hA x.next) (fun e=>hM (hs A e hA))).trans (x.g A hA hM),Nat.le_trans x.next y.next,y.pins.trans x.pins⟩
theorem Chg.push (x:Chg M h h') (b:Blk):Chg M h (h'.push b):=⟨fun A hA hM=>(g_push_ne b (by have:=x.next;omega)).trans (x.g A hA hM),by have:=x.next;simp;omega,x.pins⟩
theorem Chg.put (x:Chg M h h') {A:Nat} (hA:A∈M∨h.next≤A) (b:Blk):Chg M h (h'.put A b):=⟨fun C hC hM=>(g_put_ne b (fun e=>by
  subst e
  rcases hA with h1 | h1
  ·exact hM h1
  ·omega)).trans (x.g C hC hM),x.next,x.pins⟩
theorem Sees.chg {s:SL} {vs:List AV} (x:Sees h s vs) (c:Chg M h h') (hM:∀ A,s.blk=some A→A ∉ M):Sees h' s vs:=by
 refine ⟨x.1,x.2.1,fun A off ha=>?_⟩
 obtain ⟨h1,cs,h2,h3⟩:=x.2.2 A off ha
 exact ⟨Nat.lt_of_lt_of_le h1 c.next,cs,by rw [c.g A h1 (hM A (by simp [SL.blk,ha]))];exact h2,h3⟩
structure Elt (h:Heap) (V:Nat→Prop) (q:Nat×Nat) (n:Nat) (x:D) (cs:List AV):Prop where
 len:cs.length=n
 dt:Dt h V x cs
 cells:∀ j m,j+m≤n→h.cells (q.1,q.2+j) m=some (.agg ((cs.drop j).take m))
 cell:∀ j,j<n→h.cell (q.1,q.2+j)=cs[j]?
end
end Ai
namespace Ai
variable [IntT]
def AppN (E:Env) (st e:TypeId) (n W:Nat):Prop:=E.und st=some (.slice e)∧(∃ i,E.info e=some i∧i.size=n∧i.bytes+i.size+1≤W)∧∃ z,E.zero e=some z∧z.cells.length=n
def appNB (E:Env) (st e:TypeId) (n W:Nat):Bool:=
 match E.und st with
 | some (.slice e')=>Nat.beq e' e&&(match E.info e with | some i=>Nat.beq i.size n&&Nat.ble (i.bytes+i.size+1) W | none=>false)&&(match E.zero e with | some z=>Nat.beq z.cells.length n | none=>false)
 | _=>false
theorem AppN.of {E:Env} {st e:TypeId} {n W:Nat} (h:appNB E st e n W=true):AppN E st e n W:=by
 unfold appNB at h
 split at h
 ·rename_i e' hu
  simp only [Bool.and_eq_true] at h
  obtain ⟨⟨h1,h2⟩,h3⟩:=h
  have h1:=Nat.eq_of_beq_eq_true h1
  subst h1
  refine ⟨hu,?_,?_⟩
  ·split at h2
   ·rename_i i hi
    simp only [Bool.and_eq_true,Nat.ble_eq] at h2
    exact ⟨i,hi,Nat.eq_of_beq_eq_true h2.1,h2.2⟩
   ·cases h2
  ·split at h3
   ·rename_i z hz;exact ⟨z,hz,Nat.eq_of_beq_eq_true h3⟩
   ·cases h3
 ·cases h
section
variable {E:Env} {B:Nat} {h h':Heap} {s:SL} {n:Nat} {xs:List D} {M:List Nat}
theorem over_at (cs ws:List AV) (k:Nat) (hk:k+ws.length≤cs.length):over k cs ws=some (cs.take k++ws++cs.drop (k+ws.length)):=over_many k cs ws hk
end
end Ai
namespace Ai
variable [IntT]
def Heap.own (h:Heap) (A:Nat) (cs:List AV):Prop:=h.g A=some (.row cs .own)∧A<h.next
section
variable {h h':Heap} {A:Nat} {cs vs:List AV} {M:List Nat}
theorem own_push (h:Heap) (cs:List AV):(h.push (.row cs .own)).own h.next cs:=⟨g_push_eq _ rfl,Nat.lt_succ_self _⟩
theorem own_put (x:h.own A cs) (vs:List AV):(h.put A (.row vs .own)).own A vs:=⟨g_put_eq _ rfl,x.2⟩
theorem Heap.own.chg (x:h.own A cs) (c:Chg M h h') (hM:A ∉ M):h'.own A cs:=⟨(c.g A x.2 hM).trans x.1,Nat.lt_of_lt_of_le x.2 c.next⟩
theorem Heap.own.cell (x:h.own A cs) (j:Nat):h.cell (A,j)=cs[j]?:=by
 rw [Heap.cell_g,x.1,cellB_own,List.head?_drop]
theorem Heap.own.cells (x:h.own A cs) {j m:Nat} (hj:j+m≤cs.length):h.cells (A,j) m=some (.agg ((cs.drop j).take m)):=by
 rw [Heap.cells_g,x.1,cellsB_own,takeN_of _ _ (by rw [List.length_drop];omega)];rfl
theorem Heap.own.store (x:h.own A cs) (hl:vs.length=cs.length):h.store (A,0) vs=some (h.put A (.row vs .own)):=by
 rw [Heap.store_g,x.1,storeB_own,over_many 0 cs vs (by omega)]
 simp [List.drop_of_length_le (show cs.length≤vs.length by omega)]
theorem Heap.own.store1 (x:h.own A cs) {j:Nat} (hj:j<cs.length) (v:AV):h.store (A,j) [v]=some (h.put A (.row (cs.set j v) .own)):=by
 rw [Heap.store_g,x.1,storeB_own,over_one _ _ _ hj];rfl
theorem Heap.own.put (x:h.own A cs) (vs:List AV):Chg [A] h (h.put A (.row vs .own)):=(Chg.refl [A] h).put (.inl (by simp)) _
theorem chg_push (h:Heap) (b:Blk):Chg [] h (h.push b):=(Chg.refl [] h).push b
theorem jcase_inl {A B β:Type} (p:A×Heap) (f:A→Heap→β) (g:B→β):jcase (Sum.inl p) f g=f p.1 p.2:=rfl
end
end Ai
namespace Ai
variable [IntT]
open Go.ChangeShapes Go.WideShapes Go.RowKit
theorem law_from {H:Type} {enc:TypeId×Value→H} {P:Program} {w:World} {bs:Nat} {S:List TypeId} (hS:plainB P S=true) {f:FuncId} {ts:List TypeId} (hts:∀ t∈ts,t∈S) {l:List VTy} {F:vdens l→Heap→Option (Bool×Heap)} (hF:FnOK P f l (.val (.one .bool)) F)
  {μs:Mu} {hs:Heap} (hrs:HR μs hs w) (hros:Rof hs) {args:Array Value} {ds:List (DataW H)} {ps:List MemPlace}
  (hlaw:∀ (h:Heap) (vs:List AV),Rof h→HLe hs h→RdArgs P h ts vs ds→∃ xs h',VTy.tos l xs=vs∧F xs h=some (true,h'))
  (hA:DataW.TrodAll enc P w 0 (fun _=>true) true ts args.toList ds ps)
  (hok:∀ (j:Nat) t v,ts[j]? = some t→args[j]? = some v→Value.okWide P w .any bs t v) :
  Calls P f args w fun e w'=>e=.returned (.bool true)∧Below w.heap.size w w':=by
 obtain ⟨μ,h,vs,_,hle,hr,hro,hv,hrd⟩:=open_args hS hts hA (fun j t v h1 h2=>hok j t v h1 (by simpa using h2)) μs hs hrs hros
 obtain ⟨xs,h',rfl,hx⟩:=hlaw h vs hro hle hrd
 refine (hF xs h true h' hx μ w args hr hv).2.mono ?_
 rintro e w' ⟨u,rfl,μ',h1,_,h3⟩
 simp only [Ty.to,VTy.to,CTy.to,VR] at h1
 exact ⟨by rw [h1],hro.ext_below h3⟩
end Ai
end Go.Proofs.YtjipnkhkkhpenaaGreatDoor

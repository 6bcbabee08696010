import Derived.Test.YtjipnkhkkhpenaaGreatDoorXVp1
/- Functions of the program as plain functions, and what they come to; part 2. -/
namespace Go.Proofs.YtjipnkhkkhpenaaGreatDoor
set_option linter.unusedVariables false
set_option linter.unusedSimpArgs false
open Go Ai Go.Proofs
namespace Vp
theorem guardB_true {β:Type} (k:Option β):guardB true k=k:=rfl
theorem strK_at {β:Type} {s:Bs} {i:Nat} (hi:i<s.length) (K:Int→Option β):strK s (i:Int) K=K ((s[i]).toNat:Int):=by
 show (match (Int.ofNat i) with | .ofNat j=>(match s[j]? with | some b=>K b.toNat | none=>none) | .negSucc _=>none)=_
 simp only [List.getElem?_eq_getElem hi]
theorem boundA_nat {i hi d:Nat} (h:i≤hi):boundA (some (.int .i64 (i:Int))) hi d=some i:=by
 have:Nat.ble i hi=true:=by simpa using h
 have e:natOf (.int .i64 (i:Int))=some i:=rfl
 simp only [boundA,e,this,cond_true]
theorem lt_nat (a b:Nat):ltInt (a:Int) (Int.ofNat b)=decide (a<b):=by
 rw [ltInt_dec];by_cases h:a<b <;> simp [h] <;> omega
theorem lt_nat' (a b:Nat):ltInt (a:Int) (b:Int)=decide (a<b):=lt_nat a b
theorem wrap_succ {i:Nat} (h:i≤4000000000):wrapA .i64 ((i:Int)+1)=((i+1:Nat):Int):=by rw [wrapA_small (by omega) (by omega)];rfl
def letterB (c:UInt8):Bool:=decide (97≤c.toNat∧c.toNat≤122)||decide (65≤c.toNat∧c.toNat≤90)||decide (c.toNat=95)
def digitB (c:UInt8):Bool:=decide (48≤c.toNat∧c.toNat≤57)
def goesB (c:UInt8):Bool:=letterB c||digitB c
theorem f155_eq (N:Nat) (c:UInt8) (h:Heap):f155 N (c.toNat:Int) h=some (letterB c,h):=by
 unfold f155 letterB
 simp only [leI,eqI]
 have a1:decide ((97:Int)≤(c.toNat:Int))=decide (97≤c.toNat):=by by_cases q:97≤c.toNat <;> simp [q] <;> omega
 have a2:decide ((c.toNat:Int)≤122)=decide (c.toNat≤122):=by by_cases q:c.toNat≤122 <;> simp [q] <;> omega
 have a3:decide ((65:Int)≤(c.toNat:Int))=decide (65≤c.toNat):=by by_cases q:65≤c.toNat <;> simp [q] <;> omega
 have a4:decide ((c.toNat:Int)≤90)=decide (c.toNat≤90):=by by_cases q:c.toNat≤90 <;> simp [q] <;> omega
 have a5:decide ((c.toNat:Int)=95)=decide (c.toNat=95):=by by_cases q:c.toNat=95 <;> simp [q] <;> omega
 rw [a1,a2,a3,a4,a5]
 by_cases q1:97≤c.toNat <;> by_cases q2:c.toNat≤122 <;> by_cases q3:65≤c.toNat <;> by_cases q4:c.toNat≤90 <;> by_cases q5:c.toNat=95 <;> simp [q1,q2,q3,q4,q5]
theorem f184_eq (N:Nat) (c:UInt8) (h:Heap):f184 N (c.toNat:Int) h=some (letterB c,h):=by
 unfold f184 letterB
 simp only [leI,eqI]
 have a1:decide ((97:Int)≤(c.toNat:Int))=decide (97≤c.toNat):=by by_cases q:97≤c.toNat <;> simp [q] <;> omega
 have a2:decide ((c.toNat:Int)≤122)=decide (c.toNat≤122):=by by_cases q:c.toNat≤122 <;> simp [q] <;> omega
 have a3:decide ((65:Int)≤(c.toNat:Int))=decide (65≤c.toNat):=by by_cases q:65≤c.toNat <;> simp [q] <;> omega
 have a4:decide ((c.toNat:Int)≤90)=decide (c.toNat≤90):=by by_cases q:c.toNat≤90 <;> simp [q] <;> omega
 have a5:decide ((c.toNat:Int)=95)=decide (c.toNat=95):=by by_cases q:c.toNat=95 <;> simp [q] <;> omega
 rw [a1,a2,a3,a4,a5]
 by_cases q1:97≤c.toNat <;> by_cases q2:c.toNat≤122 <;> by_cases q3:65≤c.toNat <;> by_cases q4:c.toNat≤90 <;> by_cases q5:c.toNat=95 <;> simp [q1,q2,q3,q4,q5]
theorem f210_eq (N:Nat) (c:UInt8) (h:Heap):f210 N (c.toNat:Int) h=some (digitB c,h):=by
 unfold f210 digitB
 simp only [leI]
 have a1:decide ((48:Int)≤(c.toNat:Int))=decide (48≤c.toNat):=by by_cases q:48≤c.toNat <;> simp [q] <;> omega
 have a2:decide ((c.toNat:Int)≤57)=decide (c.toNat≤57):=by by_cases q:c.toNat≤57 <;> simp [q] <;> omega
 rw [a1,a2]
 by_cases q1:48≤c.toNat <;> by_cases q2:c.toNat≤57 <;> simp [q1,q2]
theorem f189_eq (N:Nat) (c:UInt8) (h:Heap):f189 N (c.toNat:Int) h=some (goesB c,h):=by
 unfold f189
 rw [f155_eq,bind2_some]
 unfold goesB digitB
 simp only [leI]
 have a1:decide ((48:Int)≤(c.toNat:Int))=decide (48≤c.toNat):=by by_cases q:48≤c.toNat <;> simp [q] <;> omega
 have a2:decide ((c.toNat:Int)≤57)=decide (c.toNat≤57):=by by_cases q:c.toNat≤57 <;> simp [q] <;> omega
 rw [a1,a2]
 cases letterB c <;> by_cases q1:48≤c.toNat <;> by_cases q2:c.toNat≤57 <;> simp [q1,q2]
def runN:Bs→Nat
 | []=>0
 | c::r=>if goesB c then runN r+1 else 0
theorem drop_cons {s:Bs} {i:Nat} (h:i<s.length):s.drop i=s[i]::s.drop (i+1):=List.drop_eq_getElem_cons h
theorem run_loop {N:Nat} {s:Bs} (hs:s.length≤3000000) (h:Heap):∀ (M i:Nat),i≤s.length→s.length-i<M→f156_l1 N M s (i:Int) h=some (.exit 0,(((i+runN (s.drop i):Nat):Int),()),h):=by
 intro M
 induction M with
 | zero=>intro i _ h;omega
 | succ M ih=>
  intro i hi hM
  rw [f156_l1_succ]
  unfold f156_l1_b
  simp only [lt_nat]
  by_cases q:i<s.length
  ·simp only [q,decide_true,cond_true]
   rw [strK_at q,f189_eq,bind2_some,wrap_succ (by omega),drop_cons q]
   simp only [runN]
   cases hg:goesB s[i] with
   | true=>
    simp only [cond_true,if_true]
    rw [ih (i+1) q (by omega)]
    simp only [Nat.add_assoc,Nat.add_comm 1]
   | false=>simp
  ·simp only [q,decide_false,cond_false]
   rw [List.drop_of_length_le (by omega)];rfl
theorem f156_eq {N:Nat} {s:Bs} (hs:s.length≤3000000) (hN:s.length<N) {i:Nat} (hi:i≤s.length) (h:Heap):f156 N s (i:Int) h=some (((i+runN (s.drop i):Nat):Int),h):=by
 unfold f156
 rw [run_loop hs h N i hi (by omega)];rfl
theorem rrun_loop {N:Nat} {s:Bs} (hs:s.length≤3000000) (h:Heap):∀ (M i:Nat),i≤s.length→s.length-i<M→f185_l1 N M s (i:Int) h=some (.exit 0,(((i+runN (s.drop i):Nat):Int),()),h):=by
 intro M
 induction M with
 | zero=>intro i _ h;omega
 | succ M ih=>
  intro i hi hM
  rw [f185_l1_succ]
  unfold f185_l1_b
  simp only [lt_nat]
  by_cases q:i<s.length
  ·simp only [q,decide_true,cond_true]
   rw [strK_at q,f184_eq,bind2_some,wrap_succ (by omega),strK_at q,f210_eq,bind2_some,drop_cons q]
   have hI:=ih (i+1) q (by omega)
   have hgo:goesB s[i]=(letterB s[i]||digitB s[i]):=rfl
   cases hg:letterB s[i] with
   | true=>
    rw [hg,Bool.true_or] at hgo
    simp only [runN,hgo,cond_true,if_true]
    rw [hI]
    simp only [Nat.add_assoc,Nat.add_comm 1]
   | false=>
    cases hd:digitB s[i] with
    | true=>
     rw [hd,Bool.or_true] at hgo
     simp only [runN,hgo,cond_true,cond_false,if_true]
     rw [hI]
     simp only [Nat.add_assoc,Nat.add_comm 1]
    | false=>
     rw [hg,hd] at hgo
     simp only [runN,hgo,cond_false];simp
  ·simp only [q,decide_false,cond_false]
   rw [List.drop_of_length_le (by omega)];rfl
theorem f185_eq {N:Nat} {s:Bs} (hs:s.length≤3000000) (hN:s.length<N) {i:Nat} (hi:i≤s.length) (h:Heap):f185 N s (i:Int) h=some (((i+runN (s.drop i):Nat):Int),h):=by
 unfold f185
 rw [rrun_loop hs h N i hi (by omega)];rfl
def wordL:List Bs:=[[102,110],[115,116,114,117,99,116],[112,117,98],[108,101,116],[109,117,116],[105,102],[101,108,115,101],[119,104,105,108,101],[108,111,111,112],[98,114,101,97,107],[99,111,110,116,105,110,117,101],[114,101,116,117,114,110],[100,114,111,112],[116,114,117,101],[102,97,108,115,101],[105,110,116],[98,111,111,108]]
def anyEq (t:Bs):List Bs→Bool
 | []=>false
 | w::r=>bif eqBytes t w then true else anyEq t r
def isWord (t:Bs):Bool:=anyEq t wordL
theorem f157_eq (N:Nat) (t:Bs) (h:Heap):f157 N t h=some (isWord t,h):=by
 unfold f157 isWord wordL
 simp only [anyEq]
 repeat' (first | rfl | (generalize eqBytes t _=b;cases b <;> simp only [cond_true,cond_false]))
theorem eqBytes_comm (a b:Bs):eqBytes a b=eqBytes b a:=by
 rw [eqBytes_eq,eqBytes_eq]
 by_cases q:a=b
 ·subst q;rfl
 ·have q':¬ b=a:=fun e=>q e.symm
  rw [beq_eq_false_iff_ne.2 q,beq_eq_false_iff_ne.2 q']
theorem rword_loop {N:Nat} {t:Bs} {h:Heap} {A:Nat} {l:List Bs} (hg:h.is A (l.map AV.str)) (hl:l.length≤1000):∀ (M i:Nat),i≤l.length→l.length-i<M→
  f145_l1 N M t false ⟨some (A,0),l.length,l.length,1⟩ (i:Int) h=bif anyEq t (l.drop i) then some (.ret,(true,()),h) else some (.exit 0,(false,()),h):=by
 intro M
 induction M with
 | zero=>intro i _ h;omega
 | succ M ih=>
  intro i hi hM
  rw [f145_l1_succ]
  unfold f145_l1_b
  simp only [lt_nat]
  by_cases q:i<l.length
  ·simp only [q,decide_true,cond_true]
   have e:=ixK_of (β:=Out×(Bool×Unit)×Heap) (A,0) l.length i 1
   rw [show ((i:Nat):Int)=Int.ofNat i from rfl,ixK_of _ _ _ _ _ q]
   simp only [Nat.zero_add,Nat.mul_one]
   have hc:=hg.cell i
   rw [List.drop_eq_getElem_cons (by simpa using q)] at hc
   simp only [List.head?_cons,List.getElem_map] at hc
   rw [hc]
   simp only [bindV_some,cast_str]
   rw [List.drop_eq_getElem_cons q]
   simp only [anyEq,eqBytes_comm t]
   cases hq:eqBytes l[i] t with
   | true=>simp
   | false=>
    simp only [cond_false]
    rw [show Int.ofNat i=(i:Int) from rfl,wrap_succ (by omega)]
    exact ih (i+1) q (by omega)
  ·simp only [q,decide_false,cond_false]
   rw [List.drop_of_length_le (by omega)];rfl
theorem f145_eq {N:Nat} (hN:20≤N) (t:Bs) (h:Heap):f145 N t h=some (isWord t,h.push (.row (wordL.map AV.str) .own)):=by
 unfold f145
 have:=rword_loop (N:=N) (t:=t) (Heap.is_push h (wordL.map AV.str)) (by decide) N 0 (Nat.zero_le _) (by show 17-0<N;omega)
 have e:(h.push (.row (wordL.map AV.str) .own))=h.push (.row [(.str [102,110]),(.str [115,116,114,117,99,116]),(.str [112,117,98]),(.str [108,101,116]),(.str [109,117,116]),(.str [105,102]),(.str [101,108,115,101]),(.str [119,104,105,108,101]),(.str [108,111,111,112]),(.str [98,114,101,97,107]),(.str [99,111,110,116,105,110,117,101]),(.str [114,101,116,117,114,110]),(.str [100,114,111,112]),(.str [116,114,117,101]),(.str [102,97,108,115,101]),(.str [105,110,116]),(.str [98,111,111,108])] .own):=rfl
 rw [← e]
 dsimp only
 rw [show (⟨some (h.next,0),17,17,1⟩:SL)=⟨some (h.next,0),wordL.length,wordL.length,1⟩ from rfl,show (0:Int)=((0:Nat):Int) from rfl,this,List.drop_zero]
 unfold isWord
 cases anyEq t wordL <;> rfl
def headB (p:UInt8→Bool):Bs→Bool
 | []=>false
 | c::_=>p c
def lifeB (t:Bs):Bool:=decide (1≤t.length)&&decide (t.length≤32)&&headB letterB t&&decide (runN t=t.length)
def nameB (t:Bs):Bool:=lifeB t&&!isWord t
theorem f144_eq {N:Nat} {t:Bs} (ht:t.length≤3000000) (hN:t.length<N) (h:Heap):f144 N t h=some (lifeB t,h):=by
 unfold f144
 have e1:leInt 1 (Int.ofNat t.length)=decide (1≤t.length):=by
  rw [leI];by_cases q:1≤t.length <;> simp [q] <;> omega
 have e2:leInt (Int.ofNat t.length) 32=decide (t.length≤32):=by
  rw [leI];by_cases q:t.length≤32 <;> simp [q] <;> omega
 simp only [e1,e2]
 by_cases q1:1≤t.length
 ·by_cases q2:t.length≤32
  ·simp only [q1,q2,decide_true,cond_true]
   have h0:0<t.length:=q1
   rw [show (0:Int)=((0:Nat):Int) from rfl,strK_at h0,f184_eq,bind2_some]
   cases t with
   | nil=>simp at h0
   | cons c r=>
    simp only [List.getElem_cons_zero]
    cases hl:letterB c with
    | false=>simp [lifeB,headB,hl]
    | true=>
     simp only [cond_true]
     rw [f185_eq ht hN (Nat.zero_le _),bind2_some]
     simp only [Nat.zero_add,List.drop_zero]
     have e3:eqInt ((runN (c::r):Nat):Int) (Int.ofNat (c::r).length)=decide (runN (c::r)=(c::r).length):=by
      rw [eqI];by_cases q:runN (c::r)=(c::r).length
      ·simp only [q,decide_true];simp
      ·simp only [q,decide_false];simp;simp at q;omega
     rw [e3]
     simp only [lifeB,headB,hl,q1,q2,decide_true,Bool.true_and]
  ·simp only [q1,q2,decide_true,decide_false,cond_true,cond_false,lifeB,Bool.true_and,Bool.false_and]
 ·simp only [q1,decide_false,cond_false,lifeB,Bool.false_and]
theorem f88_eq {N:Nat} {t:Bs} (ht:t.length≤3000000) (hN:t.length<N) (hN2:20≤N) (h:Heap):∃ h',f88 N t h=some (nameB t,h')∧Chg [] h h':=by
 unfold f88 nameB
 rw [f144_eq ht hN,bind2_some]
 cases hl:lifeB t with
 | false=>exact ⟨h,rfl,Chg.refl _ _⟩
 | true=>
  simp only [cond_true]
  rw [f145_eq hN2,bind2_some]
  exact ⟨_,rfl,chg_push _ _⟩
theorem f100_eq {N:Nat} (hN:40≤N) (s:Bs) (h:Heap):f100 N s h=some (nameB s,h):=by
 unfold f100
 cases s with
 | nil=>rfl
 | cons c r=>
  have e0:eqBytes (c::r) []=false:=rfl
  have e1:leInt (Int.ofNat (c::r).length) 32=decide ((c::r).length≤32):=by
   rw [leI];show decide (((c::r).length:Int)≤32)=_
   by_cases q:(c::r).length≤32
   ·rw [decide_eq_true q,decide_eq_true];omega
   ·rw [decide_eq_false q,decide_eq_false];omega
  have e2:decide (1≤(c::r).length)=true:=by simp
  simp only [e0,Bool.not_false,cond_true,e1,nameB,lifeB,e2,Bool.true_and]
  by_cases q:(c::r).length≤32
  ·rw [decide_eq_true q,cond_true,Bool.true_and]
   have sk:∀ {β:Type} (K:Int→Option β),strK (c::r) 0 K=K (c.toNat:Int):=fun K=>strK_at (s:=c::r) (i:=0) (by simp) K
   rw [sk,f155_eq,bind2_some]
   show (bif letterB c then _ else _)=some (letterB c&&_&&_,h)
   cases letterB c with
   | false=>rfl
   | true=>
    have f:=f156_eq (N:=N) (s:=c::r) (by omega) (by omega) (i:=0) (Nat.zero_le _) h
    rw [show ((0:Nat):Int)=0 from rfl,List.drop_zero,Nat.zero_add] at f
    rw [cond_true,f,bind2_some,Bool.true_and]
    have e3:eqInt ((runN (c::r):Nat):Int) (Int.ofNat (c::r).length)=decide (runN (c::r)=(c::r).length):=by
     rw [eqI];show decide (((runN (c::r):Nat):Int)=((c::r).length:Int))=_
     by_cases q2:runN (c::r)=(c::r).length
     ·rw [decide_eq_true q2,decide_eq_true];omega
     ·rw [decide_eq_false q2,decide_eq_false];omega
    simp only [e3]
    by_cases q2:runN (c::r)=(c::r).length
    ·rw [decide_eq_true q2,cond_true,f157_eq,bind2_some,Bool.true_and]
    ·rw [decide_eq_false q2,cond_false,Bool.false_and]
  ·rw [decide_eq_false q,cond_false];rfl
end Vp
set_option maxRecDepth 20000
namespace Vp
theorem flatD_at:∀ (l:List Dg) (i:Nat) (hi:i<l.length),((flatD l).drop (i * 4)).take 4=dgc l[i]
 | x::r,0,_=>by simp only [flatD,Nat.zero_mul,List.drop_zero];rfl
 | x::r,i+1,hi=>by
  have e:(flatD (x::r)).drop ((i+1) * 4)=(flatD r).drop (i * 4):=by
   rw [Nat.succ_mul,Nat.add_comm,← List.drop_drop];rfl
  rw [e];exact flatD_at r i (by simpa using hi)
theorem flatD_app:∀ (a b:List Dg),flatD (a++b)=flatD a++flatD b
 | [],b=>rfl
 | x::r,b=>by simp only [List.cons_append,flatD,flatD_app r b,List.append_assoc]
theorem flatD_single:∀ l:List Dg,∀ v∈flatD l,AV.single v=true
 | [],v,h=>by simp [flatD] at h
 | x::r,v,h=>by
  simp only [flatD,List.mem_append] at h
  rcases h with h | h
  ·simp only [dgc,List.mem_cons,List.not_mem_nil,or_false] at h
   rcases h with rfl | rfl | rfl | rfl <;> rfl
  ·exact flatD_single r v h
theorem cast_dg {β:Type} (x:Dg) (K:Dg→Option β):(Ty.val (.agg [(.int .i64),(.int .i64),(.int .i64),(.int .i64)])).cast (.agg (dgc x)) K=K x:=rfl
def Ds (h:Heap) (s:SL) (l:List Dg):Prop:=s.len=l.length∧(s.sz=4∨s.len=0)∧Sees h s (flatD l)
section
variable {N:Nat} {h h':Heap} {s:SL} {l:List Dg} {M:List Nat}
theorem Ds.chg (p:Ds h s l) (c:Chg M h h') (hM:∀ A,s.blk=some A→A ∉ M):Ds h' s l:=⟨p.1,p.2.1,p.2.2.chg c hM⟩
theorem Ds.at (p:Ds h s l) {i:Nat} (hi:i<l.length):h.cells (s.at i 4) 4=some (.agg (dgc l[i])):=by
 have hl:i<s.len:=by rw [p.1];exact hi
 have hz:s.sz=4:=p.2.1.resolve_right (by omega)
 rw [p.2.2.cells hz hl,flatD_at l i hi]
theorem Ds.ix (p:Ds h s l) {i:Nat} (hi:i<l.length) {β:Type} (K:Nat×Nat→Option β):ixK s.a s.len (i:Int) 4 K=K (s.at i 4):=by
 have hl:i<s.len:=by rw [p.1];exact hi
 exact ixK_at (p.2.2.isSome (by omega)) hl K
theorem Ds.nil (h:Heap) (z:Nat):Ds h ⟨none,0,0,z⟩ []:=⟨rfl,.inr rfl,by simp [flatD],fun _=>rfl,fun A off ha=>by cases ha⟩
def inB (a b x:Int):Bool:=decide (a≤x)&&decide (x≤b)
def diagB (x:Dg):Bool:=inB 0 1048576 x.1&&(inB 1 8 x.2.1&&(inB 0 64 x.2.2.1&&inB 0 64 x.2.2.2.1))
theorem own_dg (h:Heap) (x:Dg):(h.push (.row (dgc x) .own)).cell (h.next,0)=some (.int .i64 x.1)∧(h.push (.row (dgc x) .own)).cell (h.next,1)=some (.int .i64 x.2.1)∧(h.push (.row (dgc x) .own)).cell (h.next,2)=some (.int .i64 x.2.2.1)∧(h.push (.row (dgc x) .own)).cell (h.next,3)=some (.int .i64 x.2.2.2.1):=by
 have o:=own_push h (dgc x)
 exact ⟨o.cell 0,o.cell 1,o.cell 2,o.cell 3⟩
theorem f106_eq (x:Dg):f106 N x h=some (diagB x,h.push (.row (dgc x) .own)):=by
 obtain ⟨c0,c1,c2,c3⟩:=own_dg h x
 unfold f106
 simp only [dgc] at c0 c1 c2 c3 ⊢
 simp only [Nat.zero_add,c0,c1,c2,c3,bindV_some,cast_int,leI,ltI,diagB,inB]
 by_cases q1:0≤x.1 <;> by_cases q2:x.1≤1048576 <;> by_cases q3:1≤x.2.1 <;> by_cases q4:x.2.1≤8 <;> simp only [q1,q2,q3,q4,decide_true,decide_false,cond_true,cond_false,Bool.true_and,Bool.false_and,Bool.and_false]
 by_cases q5:x.2.2.2.1<x.2.2.1
 ·simp only [q5,decide_true,cond_true]
  have q6:¬ x.2.2.1<x.2.2.2.1:=by omega
  simp only [q6,decide_false,cond_false]
  by_cases q7:0≤x.2.2.2.1
  ·have q8:0≤x.2.2.1:=by omega
   simp only [q7,q8,decide_true,cond_true,Bool.true_and]
   by_cases q9:x.2.2.1≤64
   ·have q10:x.2.2.2.1≤64:=by omega
    simp only [q9,q10,decide_true,Bool.true_and]
   ·simp only [q9,decide_false,Bool.false_and]
  ·simp only [q7,decide_false,cond_false,Bool.false_and,Bool.and_false]
 ·simp only [q5,decide_false,cond_false]
  by_cases q7:0≤x.2.2.1
  ·have q8:0≤x.2.2.2.1:=by omega
   simp only [q7,q8,decide_true,cond_true,Bool.true_and]
   by_cases q6:x.2.2.1<x.2.2.2.1
   ·simp only [q6,decide_true,cond_true]
    by_cases q9:x.2.2.2.1≤64
    ·have q10:x.2.2.1≤64:=by omega
     simp only [q9,q10,decide_true,Bool.true_and]
    ·simp only [q9,decide_false,Bool.and_false]
   ·have e:x.2.2.2.1=x.2.2.1:=by omega
    simp only [q6,decide_false,cond_false]
    rw [show decide (x.2.2.2.1≤64)=decide (x.2.2.1≤64) by rw [e],Bool.and_self]
  ·simp only [q7,decide_false,cond_false,Bool.false_and]
theorem cells_dg (h:Heap) (x:Dg):(h.push (.row (dgc x) .own)).cells (h.next,0) 4=some (.agg (dgc x)):=by
 have o:=own_push h (dgc x)
 rw [o.cells (by simp [dgc])];rfl
theorem f105_eq (x:Dg):∃ h',f105 N x h=some (!diagB x,h')∧Chg [] h h':=by
 refine ⟨_,?_,(chg_push h (.row (dgc x) .own)).trans (chg_push _ (.row (dgc x) .own))⟩
 unfold f105
 have c:=cells_dg h x
 have e:=f106_eq (N:=N) (h:=h.push (.row (dgc x) .own)) x
 have c':(h.push (.row [(.int .i64 x.1),(.int .i64 x.2.1),(.int .i64 x.2.2.1),(.int .i64 x.2.2.2.1)] .own)).cells (h.next,0) 4=some (.agg (dgc x)):=c
 simp only [c',bindV_some,cast_dg]
 rw [show (h.push (.row [(.int .i64 x.1),(.int .i64 x.2.1),(.int .i64 x.2.2.1),(.int .i64 x.2.2.2.1)] .own))=h.push (.row (dgc x) .own) from rfl,e,bind2_some]
theorem f163_loop (p0:l.length≤4000000000):∀ (k i M:Nat) {h:Heap},i+k=l.length→k<M→Ds h s l→∃ h' o r,f163c105_l1 N M s () 0 (l.length:Int) (i:Int) h=some (o,(r,()),h')∧Chg [] h h'∧(((l.drop i).all diagB=true∧o=.exit 0)∨((l.drop i).all diagB=false∧o=.ret∧0≤r)):=by
 intro k
 induction k with
 | zero=>
  intro i M h hi hM p
  obtain ⟨M,rfl⟩:∃ M',M=M'+1:=⟨M-1,by omega⟩
  refine ⟨h,.exit 0,0,?_,Chg.refl _ _,.inl ⟨by rw [List.drop_of_length_le (by omega)];rfl,rfl⟩⟩
  rw [f163c105_l1_succ]
  unfold f163c105_l1_b
  simp only [lt_nat',decide_eq_false (show ¬ i<l.length by omega),cond_false]
 | succ k ih=>
  intro i M h hi hM p
  obtain ⟨M,rfl⟩:∃ M',M=M'+1:=⟨M-1,by omega⟩
  have hl:i<l.length:=by omega
  obtain ⟨h1,e1,c1⟩:=f105_eq (N:=N) (h:=h) l[i]
  have hd:(l.drop i).all diagB=(diagB l[i]&&(l.drop (i+1)).all diagB):=by rw [List.drop_eq_getElem_cons hl,List.all_cons]
  have hb:∀ K,f163c105_l1_b N K s () 0 (l.length:Int) (i:Int) h=(bif !diagB l[i] then some (Out.ret,((i:Int),()),h1) else K s () 0 (l.length:Int) (((i+1:Nat):Int)) h1):=by
   intro K
   unfold f163c105_l1_b
   simp only [lt_nat',decide_eq_true hl,cond_true,p.ix hl,p.at hl,bindV_some,cast_dg,wrap_succ (show i≤4000000000 by omega)]
   rw [show (l[i].1,l[i].2.1,l[i].2.2.1,l[i].2.2.2.1,())=l[i] from rfl,e1,bind2_some]
  rw [f163c105_l1_succ,hb,hd]
  cases hq:diagB l[i] with
  | false=>exact ⟨h1,.ret,i,rfl,c1,.inr ⟨rfl,rfl,by omega⟩⟩
  | true=>
   obtain ⟨h2,o,r,e2,c2,h3⟩:=ih (i+1) M (by omega) (by omega) (p.chg c1 (by simp))
   exact ⟨h2,o,r,e2,c1.trans c2,h3⟩
theorem f104_eq (p:Ds h s l) (hl:l.length≤4000000000) (hN:l.length<N):∃ h',f104c105 N s () h=some (!l.all diagB,h')∧Chg [] h h':=by
 obtain ⟨h',o,r,e,c,q⟩:=f163_loop (N:=N) hl l.length 0 N (by omega) hN p
 refine ⟨h',?_,c⟩
 unfold f104c105 f163c105
 rw [show ((0:Nat):Int)=0 from rfl] at e
 rw [show Int.ofNat s.len=(l.length:Int) by rw [p.1];rfl,e]
 rw [List.drop_zero] at q
 rcases q with ⟨q,rfl⟩ | ⟨q,rfl,q2⟩
 ·rw [q];rfl
 ·rw [q]
  simp only [bind3_some]
  show some (leInt 0 r,h')=_
  rw [leI,decide_eq_true q2];rfl
theorem f107_eq (x y:Dg):∃ h',f107 N x y h=some (dlt x y,h')∧Chg [] h h':=by
 refine ⟨_,?_,(chg_push h (.row (dgc x) .own)).trans (chg_push _ (.row (dgc y) .own))⟩
 obtain ⟨d0,d1,d2,d3⟩:=own_dg (h.push (.row (dgc x) .own)) y
 have o:=(own_push h (dgc x)).chg (chg_push _ (.row (dgc y) .own)) (by simp)
 have c0:=o.cell 0
 have c1:=o.cell 1
 have c2:=o.cell 2
 have c3:=o.cell 3
 unfold f107
 simp only [dgc,List.getElem?_cons_zero,List.getElem?_cons_succ] at c0 c1 c2 c3 d0 d1 d2 d3 ⊢
 simp only [Nat.zero_add,c0,c1,c2,c3,d0,d1,d2,d3,bindV_some,cast_int,eqI,ltI,dlt]
 cases decide (x.1=y.1) <;> cases decide (x.2.1=y.2.1) <;> cases decide (x.2.2.1=y.2.2.1) <;> rfl
end
end Vp
namespace Vp
theorem eq145 (x y:Dg):eqA E 9 145 (.agg (dgc x)) (.agg (dgc y))=(match some (eqInt x.1 y.1) with
  | some true=>(match some (eqInt x.2.1 y.2.1) with
   | some true=>(match some (eqInt x.2.2.1 y.2.2.1) with
    | some true=>(match some (eqInt x.2.2.2.1 y.2.2.2.1) with
     | some true=>some true
     | some false=>some false
     | none=>none)
    | some false=>some false
    | none=>none)
   | some false=>some false
   | none=>none)
  | some false=>some false
  | none=>none):=by kernel_rfl
theorem eq145_dec (x y:Dg):eqA E 9 145 (.agg (dgc x)) (.agg (dgc y))=some (decide (x=y)):=by
 rw [eq145]
 simp only [eqI]
 by_cases q1:x.1=y.1
 ·rw [decide_eq_true q1]
  by_cases q2:x.2.1=y.2.1
  ·rw [decide_eq_true q2]
   by_cases q3:x.2.2.1=y.2.2.1
   ·rw [decide_eq_true q3]
    by_cases q4:x.2.2.2.1=y.2.2.2.1
    ·rw [decide_eq_true q4,decide_eq_true (show x=y from dg_ext q1 q2 q3 q4)]
    ·rw [decide_eq_false q4,decide_eq_false (show ¬ x=y from fun e=>q4 (by rw [e]))]
   ·rw [decide_eq_false q3,decide_eq_false (show ¬ x=y from fun e=>q3 (by rw [e]))]
  ·rw [decide_eq_false q2,decide_eq_false (show ¬ x=y from fun e=>q2 (by rw [e]))]
 ·rw [decide_eq_false q1,decide_eq_false (show ¬ x=y from fun e=>q1 (by rw [e]))]
theorem cmp145:E.cmp 145=true:=by kernel_rfl
theorem neq_dg (a b:Operand) (x y:Dg):binA E .neq 145 a b (.agg (dgc x)) (.agg (dgc y))=some (.bool (!decide (x=y))):=by
 show eqlA E .neq 145 a b (.agg (dgc x)) (.agg (dgc y))=_
 have hc:cmpA E 145 a b (.agg (dgc x)) (.agg (dgc y))=some (decide (x=y)):=by simp only [cmpA,cmp145,cond_true,eq145_dec]
 simp only [eqlA,hc]
theorem eql_dg (a b:Operand) (x y:Dg):binA E .eql 145 a b (.agg (dgc x)) (.agg (dgc y))=some (.bool (decide (x=y))):=by
 show eqlA E .eql 145 a b (.agg (dgc x)) (.agg (dgc y))=_
 have hc:cmpA E 145 a b (.agg (dgc x)) (.agg (dgc y))=some (decide (x=y)):=by simp only [cmpA,cmp145,cond_true,eq145_dec]
 simp only [eqlA,hc]
section
variable {N:Nat} {h h':Heap} {s t:SL} {l m:List Dg}
theorem f102_loop (hm:l.length=m.length) (hl:l.length≤4000000000) (p:Ds h s l) (q:Ds h t m):∀ (k i M:Nat),i+k=l.length→k<M→∃ o,f102_l1 N M s t false (l.length:Int) (i:Int) h=some (o,(false,()),h)∧((l.drop i=m.drop i∧o=.exit 0)∨(l.drop i≠m.drop i∧o=.ret)):=by
 intro k
 induction k with
 | zero=>
  intro i M hi hM
  obtain ⟨M,rfl⟩:∃ M',M=M'+1:=⟨M-1,by omega⟩
  refine ⟨.exit 0,?_,.inl ⟨by rw [List.drop_of_length_le (by omega),List.drop_of_length_le (by omega)],rfl⟩⟩
  rw [f102_l1_succ]
  unfold f102_l1_b
  simp only [lt_nat',decide_eq_false (show ¬ i<l.length by omega),cond_false]
 | succ k ih=>
  intro i M hi hM
  obtain ⟨M,rfl⟩:∃ M',M=M'+1:=⟨M-1,by omega⟩
  have h1:i<l.length:=by omega
  have h2:i<m.length:=by omega
  have hb:∀ K,f102_l1_b N K s t false (l.length:Int) (i:Int) h=(bif !decide (l[i]=m[i]) then some (Out.ret,(false,()),h) else K s t false (l.length:Int) (((i+1:Nat):Int)) h):=by
   intro K
   unfold f102_l1_b
   simp only [lt_nat',decide_eq_true h1,cond_true,p.ix h1,p.at h1,q.ix h2,q.at h2,bindV_some,cast_dg,wrap_succ (show i≤4000000000 by omega)]
   rw [show ([(.int .i64 l[i].1),(.int .i64 l[i].2.1),(.int .i64 l[i].2.2.1),(.int .i64 l[i].2.2.2.1)]:List AV)=dgc l[i] from rfl,show ([(.int .i64 m[i].1),(.int .i64 m[i].2.1),(.int .i64 m[i].2.2.1),(.int .i64 m[i].2.2.2.1)]:List AV)=dgc m[i] from rfl,neq_dg,bindV_some,cast_bool]
  rw [f102_l1_succ,hb,List.drop_eq_getElem_cons h1,List.drop_eq_getElem_cons h2]
  by_cases he:l[i]=m[i]
  ·rw [decide_eq_true he]
   obtain ⟨o,e,q⟩:=ih (i+1) M (by omega) (by omega)
   refine ⟨o,e,?_⟩
   rcases q with ⟨q1,q2⟩ | ⟨q1,q2⟩
   ·exact .inl ⟨by rw [he,q1],q2⟩
   ·exact .inr ⟨fun e=>q1 (List.cons.inj e).2,q2⟩
  ·rw [decide_eq_false he]
   exact ⟨.ret,rfl,.inr ⟨fun e=>he (List.cons.inj e).1,rfl⟩⟩
theorem f102_eq (p:Ds h s l) (q:Ds h t m) (hl:l.length≤4000000000) (hN:l.length<N):f102 N s t h=some (decide (l=m),h):=by
 unfold f102
 rw [show Int.ofNat s.len=(l.length:Int) by rw [p.1];rfl,show Int.ofNat t.len=(m.length:Int) by rw [q.1];rfl]
 simp only [eqI]
 by_cases hm:l.length=m.length
 ·obtain ⟨o,e,r⟩:=f102_loop (N:=N) hm hl p q l.length 0 N (by omega) hN
  rw [show ((0:Nat):Int)=0 from rfl] at e
  rw [decide_eq_true (show (l.length:Int)=(m.length:Int) by omega)]
  simp only [Bool.not_true,cond_false,e,bind3_some]
  simp only [List.drop_zero] at r
  rcases r with ⟨r,rfl⟩ | ⟨r,rfl⟩
  ·rw [decide_eq_true r];rfl
  ·rw [decide_eq_false r];rfl
 ·rw [decide_eq_false (show ¬ (l.length:Int)=(m.length:Int) by omega),decide_eq_false (show ¬ l=m from fun e=>hm (by rw [e]))];rfl
theorem f102_ne (p:Ds h s l) (ht:t.len≠s.len):f102 N t s h=some (false,h):=by
 unfold f102
 simp only [eqI]
 rw [decide_eq_false (show ¬ Int.ofNat t.len=Int.ofNat s.len from fun e=>ht (Int.ofNat.inj e))];rfl
end
end Vp
namespace Vp
theorem und30:E.und 30=some (.slice 145):=by kernel_rfl
theorem size145:E.size 145=some 4:=by kernel_rfl
theorem zero145:E.zero 145=some (.agg (dgc (0,0,0,0,()))):=by kernel_rfl
theorem app30:AppN E 30 145 4 100:=AppN.of (by kernel_rfl)
theorem flatD_drop:∀ (l:List Dg) (k:Nat),(flatD l).drop (k * 4)=flatD (l.drop k)
 | l,0=>by simp
 | [],k+1=>by simp [flatD]
 | x::r,k+1=>by
  rw [Nat.succ_mul,Nat.add_comm,← List.drop_drop]
  exact flatD_drop r k
theorem flatD_set:∀ (l:List Dg) (k:Nat) (x:Dg),k<l.length→over (k * 4) (flatD l) (dgc x)=some (flatD (l.set k x))
 | y::r,0,x,_=>by
  rw [over_many _ _ _ (by simp [flatD_len,dgc];omega)]
  simp only [Nat.zero_mul,List.take_zero,List.nil_append,flatD,List.set_cons_zero]
  rfl
 | y::r,k+1,x,h=>by
  have e:=flatD_set r k x (by simpa using h)
  have hl:(k+1) * 4+(dgc x).length≤(flatD (y::r)).length:=by rw [flatD_len,List.length_cons];simp only [List.length_cons] at h;show (k+1) * 4+4≤_;omega
  have hl2:k * 4+(dgc x).length≤(flatD r).length:=by rw [flatD_len];simp only [List.length_cons] at h;show k * 4+4≤_;omega
  rw [over_many _ _ _ hl]
  rw [over_many _ _ _ hl2] at e
  simp only [Option.some.injEq] at e
  simp only [flatD,List.set_cons_succ,← e]
  have h4:(dgc y).length=4:=rfl
  rw [List.take_append,List.drop_append,h4,List.take_of_length_le (by omega),List.drop_of_length_le (by omega),List.nil_append,show (k+1) * 4-4=k * 4 by omega,show (k+1) * 4+(dgc x).length-4=k * 4+(dgc x).length by omega]
  simp only [List.append_assoc]
section
variable {N:Nat} {h h':Heap} {s:SL} {l L:List Dg} {B:Nat}
def Gr (h:Heap) (B:Nat) (L:List Dg):Prop:=h.g B=some (.row (flatD L) .grown)∧B<h.next
theorem Gr.ds (p:Gr h B L) (k c:Nat) (hk:k≤L.length):Ds h ⟨some (B,k * 4),L.length-k,c,4⟩ (L.drop k):=by
 refine ⟨by simp,.inl rfl,?_,fun e=>(by cases e),fun A off e=>?_⟩
 ·rw [flatD_len,List.length_drop]
 ·cases e
  refine ⟨p.2,flatD L,by rw [p.1];rfl,?_⟩
  rw [flatD_drop,List.take_of_length_le (Nat.le_refl _)]
theorem Gr.store (p:Gr h B L) {k:Nat} (hk:k<L.length) (x:Dg):h.store (B,k * 4) (dgc x)=some (h.put B (.row (flatD (L.set k x)) .grown)):=by
 rw [Heap.store_g,p.1]
 show (over (k * 4) (flatD L) (dgc x)).map _=_
 rw [flatD_set L k x hk];rfl
theorem Gr.put (p:Gr h B L) (L':List Dg):Gr (h.put B (.row (flatD L') .grown)) B L'∧Chg [B] h (h.put B (.row (flatD L') .grown)):=⟨⟨g_put_eq _ rfl,p.2⟩,(Chg.refl [B] h).put (.inl (by simp)) _⟩
theorem slice30 {A off n c k:Nat} (hk:k≤n):sliceA E h 30 (.slice (some (A,off)) n c 4) (some (.int .i64 (k:Int))) none=some (.slice (some (A,off+k * 4)) (n-k) (c-k) 4):=by
 have e:boundA none c n=some n:=rfl
 have e2:Nat.beq 4 4=true:=rfl
 simp only [sliceA,und30,size145,e2,cond_true,e,boundA_nat hk]
theorem slice30to {A off n c k:Nat} (hk:k≤c):sliceA E h 30 (.slice (some (A,off)) n c 4) none (some (.int .i64 (k:Int)))=some (.slice (some (A,off+0 * 4)) (k-0) (c-0) 4):=by
 have e:boundA none k 0=some 0:=rfl
 have e2:Nat.beq 4 4=true:=rfl
 simp only [sliceA,und30,size145,e2,cond_true,e,boundA_nat hk]
theorem Gr.clear (p:Gr h B L) {k n c:Nat} (hk:k+(n+1)≤L.length):∃ h',clearA E 30 (.slice (some (B,k * 4)) (n+1) c 4) h=some (undefA,h')∧Chg [B] h h':=by
 have hr:h.rowW B=some (flatD L,.grown):=by
  have:h.t.get B=some (.row (flatD L) .grown):=p.1
  simp only [Heap.rowW,this]
 have hlen:(repL (n+1) (dgc (0,0,0,0,()))).length=(n+1) * 4:=repL_length _ _
 refine ⟨_,?_,(Chg.refl [B] h).put (A:=B) (.inl (by simp)) (.row ((flatD L).take (k * 4)++repL (n+1) (dgc (0,0,0,0,()))++(flatD L).drop (k * 4+(repL (n+1) (dgc (0,0,0,0,()))).length)) .grown)⟩
 have ho:=over_many (k * 4) (flatD L) (repL (n+1) (dgc (0,0,0,0,()))) (by rw [hlen,flatD_len];omega)
 unfold clearA
 rw [und30]
 simp only [zero145,hr,AV.cells,ho]
 rfl
theorem f162_l2_ok {n k0:Nat}:∀ (d j k M:Nat) {h:Heap} {L:List Dg},L.length=n→k0+j+d=n→d<M→1≤j→k+1≤k0+j→n≤4000000000→Gr h B L→∃ k' h' L',f162_l2 N M ⟨some (B,0),n,n,4⟩ (k:Int) ⟨some (B,k0 * 4),n-k0,n-k0,4⟩ (j:Int) h=some (.exit 2,(⟨some (B,0),n,n,4⟩,((k':Nat):Int),()),h')∧k'≤k+d∧L'.length=n∧Gr h' B L'∧Chg [B] h h':=by
 intro d
 induction d with
 | zero=>
  intro j k M h L hL hj hM h1 hk hn p
  obtain ⟨M,rfl⟩:∃ M',M=M'+1:=⟨M-1,by omega⟩
  refine ⟨k,h,L,?_,by omega,hL,p,Chg.refl _ _⟩
  rw [f162_l2_succ]
  unfold f162_l2_b
  simp only [lt_nat,decide_eq_false (show ¬ j<n-k0 by omega),cond_false]
 | succ d ih=>
  intro j k M h L hL hj hM h1 hk hn p
  obtain ⟨M,rfl⟩:∃ M',M=M'+1:=⟨M-1,by omega⟩
  have q:=p.ds k0 (n-k0) (by omega)
  rw [hL] at q
  have hj1:j<(L.drop k0).length:=by rw [List.length_drop];omega
  have hj2:j-1<(L.drop k0).length:=by omega
  have hw:wrapA .i64 ((j:Int)-1)=((j-1:Nat):Int):=by rw [wrapA_small (by omega) (by omega)];omega
  have q0:=p.ds 0 n (by omega)
  rw [hL,Nat.zero_mul,Nat.sub_zero,List.drop_zero] at q0
  have hkl:k<L.length:=by omega
  have hat:(⟨some (B,0),n,n,4⟩:SL).at k 4=(B,k * 4):=by simp [SL.at]
  have hb:∀ K,f162_l2_b N K ⟨some (B,0),n,n,4⟩ (k:Int) ⟨some (B,k0 * 4),n-k0,n-k0,4⟩ (j:Int) h=(bif !decide ((L.drop k0)[j]=(L.drop k0)[j-1]) then K ⟨some (B,0),n,n,4⟩ ((k+1:Nat):Int) ⟨some (B,k0 * 4),n-k0,n-k0,4⟩ ((j+1:Nat):Int) (h.put B (.row (flatD (L.set k (L.drop k0)[j])) .grown)) else K ⟨some (B,0),n,n,4⟩ (k:Int) ⟨some (B,k0 * 4),n-k0,n-k0,4⟩ ((j+1:Nat):Int) h):=by
   intro K
   have hix:∀ {β:Type} (K:Nat×Nat→Option β),ixK (some (B,0)) n (k:Int) 4 K=K (B,k * 4):=fun K=>by
    have:=q0.ix hkl K
    rw [hat] at this;exact this
   have hst:=p.store hkl (L.drop k0)[j]
   have a1:=q.at hj1
   have a2:=q.at hj2
   have i1:=fun {β:Type} (K:Nat×Nat→Option β)=>q.ix hj1 K
   have i2:=fun {β:Type} (K:Nat×Nat→Option β)=>q.ix hj2 K
   simp only at i1 i2
   unfold f162_l2_b
   simp only [lt_nat,decide_eq_true (show j<n-k0 by omega),cond_true,i1,a1,hw,i2,a2,bindV_some,cast_dg,wrap_succ (show j≤4000000000 by omega),wrap_succ (show k≤4000000000 by omega),hix]
   rw [show ([(.int .i64 (L.drop k0)[j].1),(.int .i64 (L.drop k0)[j].2.1),(.int .i64 (L.drop k0)[j].2.2.1),(.int .i64 (L.drop k0)[j].2.2.2.1)]:List AV)=dgc (L.drop k0)[j] from rfl,show ([(.int .i64 (L.drop k0)[j-1].1),(.int .i64 (L.drop k0)[j-1].2.1),(.int .i64 (L.drop k0)[j-1].2.2.1),(.int .i64 (L.drop k0)[j-1].2.2.2.1)]:List AV)=dgc (L.drop k0)[j-1] from rfl,neq_dg,bindV_some,cast_bool,hst,need_some]
  rw [f162_l2_succ,hb]
  by_cases he:(L.drop k0)[j]=(L.drop k0)[j-1]
  ·rw [decide_eq_true he]
   obtain ⟨k',h2,L',e,b1,b2,b3,b4⟩:=ih (j+1) k M hL (by omega) (by omega) (by omega) (by omega) hn p
   exact ⟨k',h2,L',e,by omega,b2,b3,b4⟩
  ·rw [decide_eq_false he]
   obtain ⟨p1,c1⟩:=p.put (L.set k (L.drop k0)[j])
   obtain ⟨k',h2,L',e,b1,b2,b3,b4⟩:=ih (j+1) (k+1) M (by simpa using hL) (by omega) (by omega) (by omega) (by omega) hn p1
   exact ⟨k',h2,L',e,by omega,b2,b3,c1.trans b4⟩
end
end Vp
namespace Vp
def ndB:List Dg→Bool
 | x::y::r=>!decide (y=x)&&ndB (y::r)
 | _=>true
def asc:List Dg→Bool
 | x::y::r=>dlt x y&&asc (y::r)
 | _=>true
theorem dlt_asymm {x y:Dg} (h:dlt x y=true):dlt y x=false:=by
 cases q:dlt y x with
 | false=>rfl
 | true=>rw [dlt_iff] at h q;omega
theorem dlt_trans {x y z:Dg} (h:dlt x y=true) (k:dlt y z=true):dlt x z=true:=Va.swo.trans x y z h k
theorem asc_pair:∀ {l:List Dg},asc l=true→l.Pairwise fun a b=>dlt a b=true
 | [],_=>.nil
 | [x],_=>List.pairwise_singleton _ _
 | x::y::r,h=>by
  simp only [asc,Bool.and_eq_true] at h
  have p:=asc_pair h.2
  refine .cons (fun z hz=>?_) p
  rcases List.mem_cons.1 hz with rfl | hz
  ·exact h.1
  ·exact dlt_trans h.1 (List.rel_of_pairwise_cons p hz)
theorem asc_sort {l:List Dg} (h:asc l=true):dsort l=l:=by
 refine List.mergeSort_of_pairwise ((asc_pair h).imp ?_)
 intro a b hab
 rw [dlt_asymm hab];rfl
theorem asc_nd:∀ {l:List Dg},asc l=true→ndB l=true
 | [],_=>rfl
 | [x],_=>rfl
 | x::y::r,h=>by
  simp only [asc,Bool.and_eq_true] at h
  simp only [ndB,Bool.and_eq_true]
  refine ⟨?_,asc_nd h.2⟩
  cases q:decide (y=x) with
  | false=>rfl
  | true=>
   rw [decide_eq_true_eq] at q
   subst q
   have:=Va.swo.irrefl y
   rw [this] at h;exact absurd h.1 (by simp)
theorem nd_asc:∀ {l:List Dg},(l.Pairwise fun a b=>(!dlt b a)=true)→ndB l=true→asc l=true
 | [],_,_=>rfl
 | [x],_,_=>rfl
 | x::y::r,p,h=>by
  simp only [ndB,Bool.and_eq_true,Bool.not_eq_true',decide_eq_false_iff_not] at h
  simp only [asc,Bool.and_eq_true]
  refine ⟨?_,nd_asc (List.Pairwise.of_cons p) h.2⟩
  have h1:(!dlt y x)=true:=List.rel_of_pairwise_cons p List.mem_cons_self
  cases q:dlt x y with
  | true=>rfl
  | false=>exact absurd (Va.dlt_total y x (by simpa using h1) q) h.1
theorem sort_pair (l:List Dg):(dsort l).Pairwise fun a b=>(!dlt b a)=true:=by
 refine List.pairwise_mergeSort (fun a b c h1 h2=>?_) (fun a b=>?_) l
 ·simp only [Bool.not_eq_true'] at h1 h2 ⊢
  exact Va.swo.ntrans c b a h2 h1
 ·cases q:dlt b a with
  | false=>rfl
  | true=>rw [dlt_asymm q];rfl
theorem sort_asc {l:List Dg} (h:ndB (dsort l)=true):asc (dsort l)=true:=nd_asc (sort_pair l) h
section
variable {N:Nat} {h h':Heap} {s:SL} {l L:List Dg} {B:Nat}
theorem f162_l1_ok {n:Nat} (hN:n+2≤N) (hn:n≤1000000000) (hL:L.length=n) (p:Gr h B L):∀ (d k M:Nat),k+d=n→d<M→1≤k→
  (ndB (L.drop (k-1))=true∧f162_l1 N M ⟨some (B,0),n,n,4⟩ ⟨none,0,0,0⟩ (k:Int) h=some (.exit 0,(⟨some (B,0),n,n,4⟩,⟨none,0,0,0⟩,()),h))∨
  (ndB (L.drop (k-1))=false∧∃ s' h',f162_l1 N M ⟨some (B,0),n,n,4⟩ ⟨none,0,0,0⟩ (k:Int) h=some (.ret,(⟨some (B,0),n,n,4⟩,s',()),h')∧s'.len<n∧Chg [B] h h'):=by
 intro d
 induction d with
 | zero=>
  intro k M hk hM h1
  obtain ⟨M,rfl⟩:∃ M',M=M'+1:=⟨M-1,by omega⟩
  have e:∃ x,L.drop (k-1)=[x]∨L.drop (k-1)=[]:=by
   have hl:(L.drop (k-1)).length≤1:=by rw [List.length_drop];omega
   match L.drop (k-1),hl with
   | [],_=>exact ⟨(0,0,0,0,()),.inr rfl⟩
   | [x],_=>exact ⟨x,.inl rfl⟩
   | _::_::_,hl=>simp at hl
  refine .inl ⟨?_,?_⟩
  ·obtain ⟨x,e | e⟩:=e <;> rw [e] <;> rfl
  ·rw [f162_l1_succ]
   unfold f162_l1_b
   simp only [lt_nat,decide_eq_false (show ¬ k<n by omega),cond_false]
 | succ d ih=>
  intro k M hk hM h1
  obtain ⟨M,rfl⟩:∃ M',M=M'+1:=⟨M-1,by omega⟩
  have hk1:k<L.length:=by omega
  have hk2:k-1<L.length:=by omega
  have e1:L.drop (k-1)=L[k-1]::L[k]::L.drop (k+1):=by
   rw [List.drop_eq_getElem_cons hk2,show k-1+1=k by omega,List.drop_eq_getElem_cons hk1]
  have hnd:ndB (L.drop (k-1))=(!decide (L[k]=L[k-1])&&ndB (L.drop k)):=by
   rw [e1,List.drop_eq_getElem_cons hk1];rfl
  have q0:=p.ds 0 n (by omega)
  rw [hL,Nat.zero_mul,Nat.sub_zero,List.drop_zero] at q0
  have hw:wrapA .i64 ((k:Int)-1)=((k-1:Nat):Int):=by rw [wrapA_small (by omega) (by omega)];omega
  have a1:=q0.at hk1
  have a2:=q0.at hk2
  have i1:=fun {β:Type} (K:Nat×Nat→Option β)=>q0.ix hk1 K
  have i2:=fun {β:Type} (K:Nat×Nat→Option β)=>q0.ix hk2 K
  simp only at i1 i2
  have d1:[(AV.int .i64 L[k].1),(.int .i64 L[k].2.1),(.int .i64 L[k].2.2.1),(.int .i64 L[k].2.2.2.1)]=dgc L[k]:=rfl
  have d2:[(AV.int .i64 L[k-1].1),(.int .i64 L[k-1].2.1),(.int .i64 L[k-1].2.2.1),(.int .i64 L[k-1].2.2.2.1)]=dgc L[k-1]:=rfl
  rw [hnd]
  by_cases he:L[k]=L[k-1]
  ·refine .inr ⟨by rw [decide_eq_true he];rfl,?_⟩
   obtain ⟨k',h2,L',e2,b1,b2,b3,b4⟩:=f162_l2_ok (N:=N) (n:=n) (k0:=k) (n-k-1) 1 k N hL (by omega) (by omega) (by omega) (by omega) (by omega) p
   obtain ⟨m,hm⟩:∃ m,n-k'=m+1:=⟨n-k'-1,by omega⟩
   obtain ⟨h3,e3,b5⟩:=b3.clear (k:=k') (n:=m) (c:=n-k') (by omega)
   refine ⟨⟨some (B,0+0 * 4),k'-0,n-0,4⟩,h3,?_,by show k'-0<n;omega,b4.trans b5⟩
   rw [f162_l1_succ]
   unfold f162_l1_b
   simp only [lt_nat,decide_eq_true (show k<n by omega),cond_true,i1,a1,hw,i2,a2,bindV_some,cast_dg,d1,d2,eql_dg,decide_eq_true he,cast_bool,slice30 (show k≤n by omega),cast_slice,Nat.zero_add]
   rw [show ((1:Nat):Int)=1 from rfl] at e2
   simp only [e2,bind3_some,slice30 (show k'≤n by omega),slice30to (show k'≤n by omega),bindV_some,cast_slice,Nat.zero_add]
   rw [hm] at e3 ⊢
   simp only [e3,bindT_some,cast_any]
  ·rcases ih (k+1) M (by omega) (by omega) (by omega) with ⟨g1,g2⟩ | ⟨g1,s',h',g2,g3⟩
   ·refine .inl ⟨by rw [decide_eq_false he];simpa using g1,?_⟩
    rw [f162_l1_succ]
    unfold f162_l1_b
    simp only [lt_nat,decide_eq_true (show k<n by omega),cond_true,i1,a1,hw,i2,a2,bindV_some,cast_dg,d1,d2,eql_dg,decide_eq_false he,cast_bool,cond_false,wrap_succ (show k≤4000000000 by omega)]
    exact g2
   ·refine .inr ⟨by rw [decide_eq_false he];simpa using g1,s',h',?_,g3⟩
    rw [f162_l1_succ]
    unfold f162_l1_b
    simp only [lt_nat,decide_eq_true (show k<n by omega),cond_true,i1,a1,hw,i2,a2,bindV_some,cast_dg,d1,d2,eql_dg,decide_eq_false he,cast_bool,cond_false,wrap_succ (show k≤4000000000 by omega)]
    exact g2
theorem f162_eq {n:Nat} (hN:n+2≤N) (hn:n≤1000000000) (hL:L.length=n) (p:Gr h B L) :
  (ndB L=true∧f162 N ⟨some (B,0),n,n,4⟩ h=some (⟨some (B,0),n,n,4⟩,h))∨(ndB L=false∧∃ s' h',f162 N ⟨some (B,0),n,n,4⟩ h=some (s',h')∧s'.len<n∧Chg [B] h h'):=by
 by_cases h2:n<2
 ·refine .inl ⟨?_,?_⟩
  ·match L,hL with
   | [],_=>rfl
   | [x],_=>rfl
   | _::_::_,hL=>simp at hL;omega
  ·unfold f162
   simp only [ltI,decide_eq_true (show Int.ofNat n<2 by show (n:Int)<2;omega),cond_true]
 ·have q:=f162_l1_ok hN hn hL p (n-1) 1 N (by omega) (by omega) (Nat.le_refl _)
  rw [show ((1:Nat):Int)=1 from rfl,Nat.sub_self,List.drop_zero] at q
  have hlt:ltInt (Int.ofNat n) 2=false:=by rw [ltI,decide_eq_false (show ¬ Int.ofNat n<2 by show ¬ (n:Int)<2;omega)]
  rcases q with ⟨q1,q2⟩ | ⟨q1,s',h',q2,q3,q4⟩
  ·refine .inl ⟨q1,?_⟩
   unfold f162
   simp only [hlt,cond_false,q2,bind3_some];rfl
  ·refine .inr ⟨q1,s',h',?_,q3,q4⟩
   unfold f162
   simp only [hlt,cond_false,q2,bind3_some];rfl
end
end Vp
namespace Vp
section
variable {N:Nat} {h h':Heap} {s t:SL} {l L:List Dg} {B:Nat}
theorem Ds.first (p:Ds h s l):firstCellsA h 4 l.length (.slice s.a s.len s.cap s.sz)=some (flatD l):=by
 cases ha:s.a with
 | none=>
  have:=p.2.2.2.1 ha
  have hl:l=[]:=List.eq_nil_of_length_eq_zero (by have:=p.1;omega)
  rw [hl];rfl
 | some q=>
  obtain ⟨A,off⟩:=q
  obtain ⟨h6,cs,h7,h8⟩:=p.2.2.2.2 A off ha
  have hlen:((cs.drop off).take (flatD l).length).length=(flatD l).length:=by rw [h8]
  rw [List.length_take,flatD_len] at hlen
  simp only [firstCellsA,Heap.read,row_of_rowB A h7]
  rw [takeN_of _ _ (by omega),← flatD_len,h8]
theorem app_nil (p:Ds h s l) (hl:l.length≤1000000) (hne:l≠[]):appendA E 30 30 (.slice none 0 0 0) (.slice s.a s.len s.cap s.sz) h=some (.slice (some (h.next,0)) l.length l.length 4,h.push (.row (flatD l) .grown)):=by
 obtain ⟨hu,⟨i,hi,hi1,hi2⟩,⟨z,hz,hz1⟩⟩:=app30
 have hpos:0<l.length:=List.length_pos_iff.2 hne
 have hn0:Nat.beq l.length 0=false:=by
  cases hq:Nat.beq l.length 0 with
  | false=>rfl
  | true=>have:=Nat.eq_of_beq_eq_true hq;omega
 have hf:=p.first
 have hroom:Nat.ble (l.length * (i.bytes+4+1)) roomA=true:=by
  have h1:l.length * (i.bytes+4+1)≤l.length * 100:=Nat.mul_le_mul (Nat.le_refl _) (by omega)
  simp only [roomA,Nat.ble_eq];omega
 have hz2:Nat.beq z.cells.length 4=true:=by rw [hz1];rfl
 have hnl:Nat.beq (flatD l).length (l.length * 4)=true:=by rw [flatD_len];exact Nat.beq_refl _
 have hall:(flatD l).all AV.single=true:=by rw [List.all_eq_true];exact flatD_single l
 have hsz:(Nat.beq 0 4||(none:Option (Nat×Nat)).isNone)=true:=rfl
 have e:s.len=l.length:=p.1
 simp only [appendA,hu,isIntD,isStrD,cond_false,hi,hz,lenOfA]
 rw [e] at hf ⊢
 simp only [hi1,hf,hn0,cond_false,hroom,hz2,hnl,hall,hsz,Bool.and_self,cond_true,growA,Nat.zero_add]
theorem f103_eq (p:Ds h s l) (hl:l.length≤1000) (hN:2000≤N):∃ s' h',f103 N s h=some (s',h')∧Chg [] h h'∧((asc l=true∧Ds h' s' l)∨(asc l=false∧(s'.len≠l.length∨∃ m,Ds h' s' m∧m≠l))):=by
 by_cases hne:l=[]
 ·subst hne
  have hl0:s.len=0:=p.1
  refine ⟨⟨none,0,0,0⟩,h,?_,Chg.refl _ _,.inl ⟨rfl,Ds.nil h 0⟩⟩
  have ha:appendA E 30 30 (.slice none 0 0 0) (.slice s.a s.len s.cap s.sz) h=some (.slice none 0 0 0,h):=by
   obtain ⟨hu,⟨i,hi,hi1,hi2⟩,⟨z,hz,hz1⟩⟩:=app30
   have hf:=p.first
   have hb:Nat.beq 0 0=true:=rfl
   simp only [appendA,hu,isIntD,isStrD,cond_false,hi,hz,lenOfA]
   rw [hl0] at hf ⊢
   simp only [hi1,List.length_nil] at hf ⊢
   simp only [hf,hb,cond_true]
  unfold f103
  rw [ha,bindT_some,cast_slice]
  have hs:f158c159 N ⟨none,0,0,0⟩ () h=some ((),h):=rfl
  have hc:f162 N ⟨none,0,0,0⟩ h=some (⟨none,0,0,0⟩,h):=rfl
  rw [hs,bind2_some,hc,bind2_some]
 ·have hpos:0<l.length:=List.length_pos_iff.2 hne
  have ha:=app_nil p (by omega) hne
  have c0:=chg_push h (.row (flatD l) .grown)
  have p0:Gr (h.push (.row (flatD l) .grown)) h.next l:=⟨g_push_eq _ rfl,Nat.lt_succ_self _⟩
  obtain ⟨p1,c1⟩:=p0.put (dsort l)
  have hlen:=Va.dsort_len l
  have hs:f158c159 N ⟨some (h.next,0),l.length,l.length,4⟩ () (h.push (.row (flatD l) .grown))=some ((),(h.push (.row (flatD l) .grown)).put h.next (.row (flatD (dsort l)) .grown)):=by
   show Va.sortF ⟨some (h.next,0),l.length,l.length,4⟩ () (h.push (.row (flatD l) .grown))=_
   have g:(h.push (.row (flatD l) .grown)).t.get h.next=some (.row (flatD l) .grown):=p0.1
   have b1:(Nat.ble 1 l.length&&Nat.ble l.length 1000000)=true:=by rw [Bool.and_eq_true,Nat.ble_eq,Nat.ble_eq];omega
   have r1:Va.rowOG (h.push (.row (flatD l) .grown)) h.next=some (flatD l,.grown):=by simp only [Va.rowOG,g]
   have r2:(h.push (.row (flatD l) .grown)).read h.next 0 (l.length * 4)=some (flatD l):=by
    simp only [Heap.read,Heap.row,g,List.drop_zero]
    rw [takeN_of _ _ (by rw [flatD_len];exact Nat.le_refl _),List.take_of_length_le (by rw [flatD_len];exact Nat.le_refl _)]
   have o1:over 0 (flatD l) (flatD (dsort l))=some (flatD (dsort l)):=by
    rw [over_many _ _ _ (by rw [flatD_len,flatD_len,hlen];omega),List.take_zero,List.nil_append,List.drop_of_length_le (by rw [flatD_len,flatD_len,hlen];omega),List.append_nil]
   simp only [Va.sortF,b1,cond_true,r1,r2,Va.dgsOf_flat,o1]
  have hf:f103 N s h=bind2 (f162 N ⟨some (h.next,0),l.length,l.length,4⟩ ((h.push (.row (flatD l) .grown)).put h.next (.row (flatD (dsort l)) .grown))) fun x5 h6=>some (x5,h6):=by
   unfold f103
   rw [ha,bindT_some,cast_slice,hs,bind2_some]
  have c:Chg [] h ((h.push (.row (flatD l) .grown)).put h.next (.row (flatD (dsort l)) .grown)):=c0.step c1 fun A hA hlt=>by rw [List.mem_singleton.1 hA] at hlt;omega
  rcases f162_eq (N:=N) (by omega) (by omega) hlen p1 with ⟨q1,q2⟩ | ⟨q1,s',h',q2,q3,q4⟩
  ·refine ⟨_,_,by rw [hf,q2,bind2_some],c,?_⟩
   have d:=p1.ds 0 l.length (by omega)
   rw [hlen,Nat.zero_mul,Nat.sub_zero,List.drop_zero] at d
   cases ha:asc l with
   | true=>rw [asc_sort ha] at d ⊢;exact .inl ⟨rfl,d⟩
   | false=>
    refine .inr ⟨rfl,.inr ⟨_,d,fun e=>?_⟩⟩
    have:=sort_asc q1
    rw [e,ha] at this;cases this
  ·refine ⟨s',h',by rw [hf,q2,bind2_some],c.step q4 fun A hA hlt=>by rw [List.mem_singleton.1 hA] at hlt;omega,.inr ⟨?_,.inl (by omega)⟩⟩
   cases ha:asc l with
   | false=>rfl
   | true=>rw [asc_sort ha,asc_nd ha] at q1;cases q1
theorem sorted_eq (p:Ds h s l) (hl:l.length≤1000) (hN:2000≤N):∃ s' h',f103 N s h=some (s',h')∧Chg [] h h'∧f102 N s' s h'=some (asc l,h'):=by
 obtain ⟨s',h',e,c,q⟩:=f103_eq p hl hN
 have p':=p.chg c (by simp)
 refine ⟨s',h',e,c,?_⟩
 rcases q with ⟨q1,q2⟩ | ⟨q1,q2 | ⟨m,q2,q3⟩⟩
 ·rw [f102_eq q2 p' (by omega) (by omega),q1,decide_eq_true rfl]
 ·rw [f102_ne p' (by rw [p'.1];exact q2),q1]
 ·by_cases hm:m.length=l.length
  ·rw [f102_eq q2 p' (by omega) (by omega),q1,decide_eq_false q3]
  ·rw [f102_ne p' (by rw [q2.1,p'.1];exact hm),q1]
end
end Vp
namespace Vp
theorem isAgg5:E.isAgg 5=some false:=by kernel_rfl
theorem part5 (v:AV) (r:List AV):partA E 5 (v::r) 0=some v:=by simp only [partA,isAgg5,List.drop_zero]
theorem eq5 (a b:UInt8):eqA E 8 5 (.int .u8 a.toNat) (.int .u8 b.toNat)=some (decide (a=b)):=by
 unfold eqA
 rw [und5]
 have e:eqKind .u8 .u8=true:=rfl
 simp only [e,cond_true,eqI]
 congr 1
 by_cases q:a=b
 ·rw [decide_eq_true q,decide_eq_true (by rw [q])]
 ·rw [decide_eq_false q];exact decide_eq_false (fun e=>q (UInt8.toNat.inj (by omega)))
theorem arr5:∀ (x y:Bs),x.length=y.length→eqArr E (eqA E 8 5) 5 1 x.length (ofBytes x) (ofBytes y)=some (decide (x=y))
 | [],[],_=>rfl
 | a::x,b::y,h=>by
  have ih:=arr5 x y (by simpa using h)
  simp only [List.length_cons,eqArr,ofBytes,part5,eq5]
  by_cases q:a=b
  ·rw [decide_eq_true q]
   simp only [List.drop_succ_cons,List.drop_zero,ih,q,List.cons.injEq,true_and]
  ·rw [decide_eq_false q,decide_eq_false (fun e=>q (List.cons.inj e).1)]
theorem cmp25:E.cmp 25=true:=by kernel_rfl
theorem eq25 (x y:Bs) (hx:x.length=32) (hy:y.length=32):eqA E 9 25 (.agg (ofBytes x)) (.agg (ofBytes y))=some (decide (x=y)):=by
 have e:=arr5 x y (by omega)
 rw [hx] at e
 unfold eqA
 rw [und25]
 simp only [size5,e]
theorem neq_h (a b:Operand) (x y:Bs) (hx:x.length=32) (hy:y.length=32):binA E .neq 25 a b (.agg (ofBytes x)) (.agg (ofBytes y))=some (.bool (!decide (x=y))):=by
 show eqlA E .neq 25 a b (.agg (ofBytes x)) (.agg (ofBytes y))=_
 have hc:cmpA E 25 a b (.agg (ofBytes x)) (.agg (ofBytes y))=some (decide (x=y)):=by simp only [cmpA,cmp25,cond_true,eq25 x y hx hy]
 simp only [eqlA,hc]
def zerosH:Bs:=List.replicate 32 0
theorem HB.zero:HB z32 zerosH:=rfl
structure Rc where
 name:Bs
 code:Int
 at_:Int
 ds:List Dg
 sig:Bs
def codeB (c:Int):Bool:=decide (c=0)||(decide (c=5)||(decide (c=6)||(decide (c=1)||(decide (c=43)||(decide (c=44)||inB 20 29 c)))))
def listB (r:Rc):Bool:=asc r.ds&&r.ds.all diagB
def mayR (r:Rc):Bool:=nameB r.name&&(codeB r.code&&(inB 0 1048576 r.at_&&(decide (r.ds.length≤1000)&&(decide (0<r.ds.length) == decide (r.code=43)&&((decide (r.code=0)||decide (r.sig=zerosH))&&listB r)))))
structure RC (h:Heap) (x:dens T36) (r:Rc):Prop where
 name:x.1=r.name
 code:x.2.1=r.code
 at_:x.2.2.1=r.at_
 ds:Ds h x.2.2.2.1 r.ds
 sig:HB x.2.2.2.2 r.sig
section
variable {N:Nat} {h h':Heap} {x:dens T36} {r:Rc} {M:List Nat}
theorem RC.chg (p:RC h x r) (c:Chg [] h h'):RC h' x r:=⟨p.name,p.code,p.at_,p.ds.chg c (by simp),p.sig⟩
theorem f101_eq (c:Int):f101 N c h=some (codeB c,h):=by
 unfold f101
 simp only [eqI,leI,codeB,inB]
 by_cases q1:c=0
 ·simp only [q1,decide_true,cond_true,Bool.true_or]
 by_cases q2:c=5
 ·simp only [q2];rfl
 by_cases q3:c=6
 ·simp only [q3];rfl
 by_cases q4:c=1
 ·simp only [q4];rfl
 by_cases q5:c=43
 ·simp only [q5];rfl
 by_cases q6:c=44
 ·simp only [q6];rfl
 simp only [q1,q2,q3,q4,q5,q6,decide_false,cond_false,Bool.false_or]
 cases decide (20≤c) <;> rfl
theorem own36 (h:Heap) (x:dens T36):(h.push (.row (CTy.tos T36 x) .own)).own h.next (CTy.tos T36 x):=own_push h _
structure Cells (h:Heap) (A:Nat) (x:dens T36):Prop where
 c0:h.cell (A,0)=some (.str x.1)
 c1:h.cell (A,1)=some (.int .i64 x.2.1)
 c2:h.cell (A,2)=some (.int .i64 x.2.2.1)
 c3:h.cell (A,3)=some (.slice x.2.2.2.1.a x.2.2.2.1.len x.2.2.2.1.cap x.2.2.2.1.sz)
 c4:h.cells (A,4) 32=some (.agg (CTy.tos T32 x.2.2.2.2))
theorem cells36 {A:Nat} (o:h.own A (CTy.tos T36 x)):Cells h A x:=by
 refine ⟨o.cell 0,o.cell 1,o.cell 2,o.cell 3,?_⟩
 rw [o.cells (by show 4+32≤36;omega)];rfl
theorem cast36 {β:Type} (x:dens T36) (K:dens T36→Option β):(Ty.val (.agg T36)).cast (.agg (CTy.tos T36 x)) K=K x:=CTy.casts_tos T36 x K
theorem cast32 {β:Type} (x:dens T32) (K:dens T32→Option β):(Ty.val (.agg T32)).cast (.agg (CTy.tos T32 x)) K=K x:=CTy.casts_tos T32 x K
theorem lenI (n m:Nat):ltInt (m:Int) (Int.ofNat n)=decide (m<n):=lt_nat m n
theorem f63_eq (p:RC h x r) (hN:3000≤N):∃ h',f63 N x h=some (mayR r,h')∧Chg [] h h':=by
 have c0:=chg_push h (.row (CTy.tos T36 x) .own)
 have o:=own36 h x
 have C:=cells36 o
 have p1:=p.chg c0
 have hn:=f100_eq (N:=N) (by omega) r.name (h.push (.row (CTy.tos T36 x) .own))
 have hcd:=f101_eq (N:=N) (h:=h.push (.row (CTy.tos T36 x) .own)) r.code
 have hds:=p1.ds
 have hlen:x.2.2.2.1.len=r.ds.length:=hds.1
 obtain ⟨e1,e2,e3⟩:x.1=r.name∧x.2.1=r.code∧x.2.2.1=r.at_:=⟨p.name,p.code,p.at_⟩
 have k0:=C.c0;have k1:=C.c1;have k2:=C.c2;have k3:=C.c3;have k4:=C.c4
 rw [e1] at k0;rw [e2] at k1;rw [e3] at k2
 have hz:binA E .neq 25 (.tmp 45) (.tmp 46) (.agg (CTy.tos T32 x.2.2.2.2)) (.agg (CTy.tos T32 z32))=some (.bool (!decide (r.sig=zerosH))):=by
  rw [show CTy.tos T32 x.2.2.2.2=ofBytes r.sig from p.sig,show CTy.tos T32 z32=ofBytes zerosH from HB.zero]
  exact neq_h _ _ _ _ p.sig.len rfl
 have no:mayR r=false→∃ h',some (false,h.push (.row (CTy.tos T36 x) .own))=some (mayR r,h')∧Chg [] h h':=fun e=>⟨_,by rw [e],c0⟩
 unfold f63
 simp only [Nat.zero_add,k0,bindV_some,cast_str,hn,bind2_some]
 cases q1:nameB r.name with
 | false=>exact no (by simp [mayR,q1])
 | true=>
 simp only [Bool.not_true,cond_false,k1,bindV_some,cast_int,hcd,bind2_some]
 cases q2:codeB r.code with
 | false=>exact no (by simp [mayR,q2])
 | true=>
 simp only [Bool.not_true,cond_false,k2,bindV_some,cast_int,ltI]
 by_cases q3:r.at_<0
 ·rw [decide_eq_true q3]
  exact no (by simp [mayR,inB,show ¬ 0≤r.at_ by omega])
 rw [decide_eq_false q3,cond_false]
 by_cases q4:1048576<r.at_
 ·rw [decide_eq_true q4]
  exact no (by simp [mayR,inB,show ¬ r.at_≤1048576 by omega])
 rw [decide_eq_false q4,cond_false]
 have hi:inB 0 1048576 r.at_=true:=by simp [inB];omega
 simp only [k3,bindV_some,cast_slice,hlen]
 by_cases hl:r.ds.length≤1000
 ·rw [decide_eq_false (show ¬ (1000:Int)<Int.ofNat r.ds.length from fun e=>by have:(1000:Int)<(r.ds.length:Int):=e;omega),cond_false]
  have hb:decide ((0:Int)<Int.ofNat r.ds.length)=decide (0<r.ds.length):=by
   by_cases q:0<r.ds.length
   ·rw [decide_eq_true q];exact decide_eq_true (show (0:Int)<(r.ds.length:Int) by omega)
   ·rw [decide_eq_false q];exact decide_eq_false (fun e=>by have:(0:Int)<(r.ds.length:Int):=e;omega)
  have hx:(bif decide (0<r.ds.length) then decide (r.code=43) else !decide (r.code=43))=(decide (0<r.ds.length) == decide (r.code=43)):=by
   cases decide (0<r.ds.length) <;> cases decide (r.code=43) <;> rfl
  simp only [k1,bindV_some,cast_int,eqI,hb,hx]
  cases q5:(decide (0<r.ds.length) == decide (r.code=43)) with
  | false=>exact no (by simp only [mayR,q5,Bool.false_and,Bool.and_false])
  | true=>
  simp only [Bool.not_true,cond_false]
  obtain ⟨s',h2,f1,d1,f2⟩:=sorted_eq hds hl (show 2000≤N by omega)
  have m3:=(cells36 (o.chg d1 (by simp))).c3
  obtain ⟨h3,f3,d2⟩:=f104_eq (N:=N) (hds.chg d1 (by simp)) (by omega) (by omega)
  have hm:mayR r=((decide (r.code=0)||decide (r.sig=zerosH))&&listB r):=by
   simp only [mayR,q1,q2,hi,q5,decide_eq_true hl,Bool.true_and]
  have hs:(⟨x.2.2.2.1.a,r.ds.length,x.2.2.2.1.cap,x.2.2.2.1.sz⟩:SL)=x.2.2.2.1:=by rw [← hlen]
  rw [hlen] at m3
  have fin:∀ K:Option (Bool×Heap),K=(bind2 (f103 N x.2.2.2.1 (h.push (.row (CTy.tos T36 x) .own))) fun x25 h27=>bind2 (f102 N x25 x.2.2.2.1 h27) fun x29 h30=>bif x29 then bind2 (f104c105 N x.2.2.2.1 () h30) fun x32 h33=>some (!x32,h33) else some (false,h30))→((decide (r.code=0)||decide (r.sig=zerosH))=true)→∃ h',K=some (mayR r,h')∧Chg [] h h':=by
   intro K hK hcz
   rw [f1,bind2_some,f2,bind2_some] at hK
   cases qa:asc r.ds with
   | false=>
    rw [qa] at hK
    refine ⟨h2,by rw [hK,hm,hcz,listB,qa];rfl,c0.trans d1⟩
   | true=>
    rw [qa,cond_true,f3,bind2_some] at hK
    refine ⟨h3,by rw [hK,hm,hcz,listB,qa,Bool.not_not];rfl,(c0.trans d1).trans d2⟩
  by_cases q6:r.code=0
  ·rw [decide_eq_true q6]
   simp only [Bool.not_true,cond_false,hs]
   refine fin _ ?_ (by rw [decide_eq_true q6];rfl)
   rw [f1,bind2_some,bind2_some]
   simp only [m3,bindV_some,cast_slice,hs,f2,bind2_some]
   cases qa:asc r.ds with
   | false=>simp only [cond_false,same_refl,cond_true];rfl
   | true=>simp only [cond_true,f3,bind2_some,same_refl];rfl
  ·rw [decide_eq_false q6]
   simp only [Bool.not_false,cond_true,k4,bindV_some,cast32,hz,cast_bool]
   cases q7:decide (r.sig=zerosH) with
   | false=>exact no (by rw [hm,decide_eq_false q6,q7];rfl)
   | true=>
   simp only [Bool.not_true,cond_false,hs]
   refine fin _ ?_ (by rw [q7,Bool.or_true])
   rw [f1,bind2_some,bind2_some]
   simp only [m3,bindV_some,cast_slice,hs,f2,bind2_some]
   cases qa:asc r.ds with
   | false=>simp only [cond_false,same_refl,cond_true];rfl
   | true=>simp only [cond_true,f3,bind2_some,same_refl];rfl
 ·rw [decide_eq_true (show (1000:Int)<Int.ofNat r.ds.length from (by show (1000:Int)<(r.ds.length:Int);omega)),cond_true]
  exact no (by simp [mayR,hl])
end
end Vp
namespace Vp
section
variable {N:Nat} {h h':Heap} {x:dens T36} {r:Rc} {M:List Nat}
def headB' (r:Rc):Bool:=codeB r.code&&(!decide (r.at_<0)&&(!decide (1048576<r.at_)&&((bif decide (0<r.ds.length) then decide (r.code=43) else !decide (r.code=43))&&(!decide (1000<r.ds.length)&&(decide (r.code=0)||decide (r.sig=zerosH))))))
theorem mayR_eq (r:Rc):mayR r=(nameB r.name&&(headB' r&&listB r)):=by
 have h1:inB 0 1048576 r.at_=(!decide (r.at_<0)&&!decide (1048576<r.at_)):=by
  unfold inB
  by_cases q1:r.at_<0 <;> by_cases q2:1048576<r.at_ <;> simp [q1,q2] <;> omega
 have h2:(decide (0<r.ds.length) == decide (r.code=43))=(bif decide (0<r.ds.length) then decide (r.code=43) else !decide (r.code=43)):=by
  cases decide (0<r.ds.length) <;> cases decide (r.code=43) <;> rfl
 have h3:decide (r.ds.length≤1000) = !decide (1000<r.ds.length):=by
  by_cases q:r.ds.length≤1000 <;> simp [q] <;> omega
 unfold mayR headB'
 rw [h1,h2,h3]
 cases nameB r.name <;> cases codeB r.code <;> cases decide (r.at_<0) <;> cases decide (1048576<r.at_) <;> cases decide (1000<r.ds.length) <;> simp [Bool.and_assoc]
abbrev J64:=Sum ((Option (Nat×Nat)×Bool×Unit)×Heap) (Sum ((Bool×Unit)×Heap) Empty)
theorem f64_head (p:RC h x r) (hN:3000≤N) (hnl:r.name.length≤2000):∃ (h5:Heap) (K:J64→Option (Bool×Heap)),Chg [] (h.push (.row (CTy.tos T36 x) .own)) h5∧
  f64 N x h=need (α:=J64) (some (bif nameB r.name&&headB' r then Sum.inl ((some (h.next,0),false,()),h5) else Sum.inr (Sum.inl ((false,()),h5)))) K∧
  (∀ q h,K (Sum.inl (q,h))=bind3 (f64_l1 N N q.1 q.2.1 0 h) fun o j h'=>bif eqOut o (.exit 0) then some (true,h') else some (j.1,h'))∧(∀ b h,K (Sum.inr (Sum.inl ((b,()),h)))=some (b,h)):=by
 have o:=own36 h x
 obtain ⟨h5,en,c5⟩:=f88_eq (N:=N) (t:=r.name) (by omega) (by omega) (by omega) (h.push (.row (CTy.tos T36 x) .own))
 have C0:=cells36 o
 have C:=cells36 (o.chg c5 (by simp))
 obtain ⟨e1,e2,e3⟩:x.1=r.name∧x.2.1=r.code∧x.2.2.1=r.at_:=⟨p.name,p.code,p.at_⟩
 have hlen:x.2.2.2.1.len=r.ds.length:=p.ds.1
 have z0:=C0.c0;have z1:=C0.c1;have k2:=C.c2;have k3:=C.c3;have k4:=C.c4
 rw [e1] at z0;rw [e2] at z1;rw [e3] at k2
 have hz:binA E .neq 25 (.tmp 75) (.tmp 76) (.agg (CTy.tos T32 x.2.2.2.2)) (.agg (CTy.tos T32 z32))=some (.bool (!decide (r.sig=zerosH))):=by
  rw [show CTy.tos T32 x.2.2.2.2=ofBytes r.sig from p.sig,show CTy.tos T32 z32=ofBytes zerosH from HB.zero]
  exact neq_h _ _ _ _ p.sig.len rfl
 have hb:decide ((0:Int)<Int.ofNat r.ds.length)=decide (0<r.ds.length):=by
  by_cases q:0<r.ds.length
  ·rw [decide_eq_true q];exact decide_eq_true (show (0:Int)<(r.ds.length:Int) by omega)
  ·rw [decide_eq_false q];exact decide_eq_false (fun e=>by have:(0:Int)<(r.ds.length:Int):=e;omega)
 have hb2:decide ((1000:Int)<Int.ofNat r.ds.length)=decide (1000<r.ds.length):=by
  by_cases q:1000<r.ds.length
  ·rw [decide_eq_true q];exact decide_eq_true (show (1000:Int)<(r.ds.length:Int) by omega)
  ·rw [decide_eq_false q];exact decide_eq_false (fun e=>by have:(1000:Int)<(r.ds.length:Int):=e;omega)
 refine ⟨h5,?_,c5,?_,?_,?_⟩
 rotate_left
 ·unfold f64
  simp only [Nat.zero_add,z0,z1,k2,k3,k4,bindV_some,cast_str,cast_int,cast_slice,cast32,hz,cast_bool,en,bind2_some,hlen,eqI,ltI,leI,hb,hb2]
  refine congrArg (fun z=>need z _) ?_
  cases nameB r.name with
  | false=>rfl
  | true=>
  simp only [Bool.not_true,cond_false,Bool.true_and,headB',codeB,inB]
  generalize hK:(bif decide (r.at_<0) then _ else _:Option J64)=K
  have hK2:K=some (bif (!decide (r.at_<0)&&(!decide (1048576<r.at_)&&((bif decide (0<r.ds.length) then decide (r.code=43) else !decide (r.code=43))&&(!decide (1000<r.ds.length)&&(decide (r.code=0)||decide (r.sig=zerosH)))))) then Sum.inl ((some (h.next,0),false,()),h5) else Sum.inr (Sum.inl ((false,()),h5))):=by
   rw [← hK]
   cases decide (r.at_<0) <;> cases decide (1048576<r.at_) <;> cases decide (0<r.ds.length) <;> cases decide (r.code=43) <;> cases decide (1000<r.ds.length) <;> cases decide (r.code=0) <;> cases decide (r.sig=zerosH) <;> rfl
  generalize (!decide (r.at_<0)&&(!decide (1048576<r.at_)&&((bif decide (0<r.ds.length) then decide (r.code=43) else !decide (r.code=43))&&(!decide (1000<r.ds.length)&&(decide (r.code=0)||decide (r.sig=zerosH))))))=G at hK2 ⊢
  rw [hK2]
  cases decide (r.code=0) <;> cases decide (r.code=1) <;> cases decide (r.code=5) <;> cases decide (r.code=6) <;> cases decide (20≤r.code) <;> cases decide (r.code≤29) <;> cases decide (r.code=43) <;> cases decide (r.code=44) <;> rfl
 ·intro q h
  rfl
 ·intro b h
  rfl
def okFrom:Option Dg→List Dg→Bool
 | _,[]=>true
 | none,d::r=>diagB d&&okFrom (some d) r
 | some e,d::r=>diagB d&&(dlt e d&&okFrom (some d) r)
theorem okFrom_some:∀ (e:Dg) (l:List Dg),okFrom (some e) l=(l.all diagB&&asc (e::l))
 | e,[]=>rfl
 | e,d::r=>by
  simp only [okFrom,okFrom_some d r,List.all_cons,asc]
  cases diagB d <;> cases dlt e d <;> cases r.all diagB <;> rfl
theorem okFrom_none:∀ (l:List Dg),okFrom none l=(asc l&&l.all diagB)
 | []=>rfl
 | d::r=>by
  simp only [okFrom,okFrom_some d r,List.all_cons]
  cases diagB d <;> cases r.all diagB <;> cases asc (d::r) <;> rfl
def prevAt (l:List Dg) (i:Nat):Option Dg:=if i=0 then none else l[i-1]?
theorem f64_loop {A:Nat} {l:List Dg} (hl:l.length≤100000):∀ (k i M:Nat) {h:Heap},i+k=l.length→k<M→h.own A (CTy.tos T36 x)→Ds h x.2.2.2.1 l→
  ∃ oo h',f64_l1 N M (some (A,0)) false (i:Int) h=some (oo,(false,()),h')∧Chg [] h h'∧((okFrom (prevAt l i) (l.drop i)=true∧oo=.exit 0)∨(okFrom (prevAt l i) (l.drop i)=false∧oo=.ret)):=by
 intro k
 induction k with
 | zero=>
  intro i M h hi hM o p
  obtain ⟨M,rfl⟩:∃ M',M=M'+1:=⟨M-1,by omega⟩
  refine ⟨.exit 0,h,?_,Chg.refl _ _,.inl ⟨by rw [List.drop_of_length_le (by omega)];cases prevAt l i <;> rfl,rfl⟩⟩
  have k3:=(cells36 o).c3
  rw [f64_l1_succ]
  unfold f64_l1_b
  simp only [need_some,Nat.zero_add,k3,bindV_some,cast_slice,p.1,lt_nat,decide_eq_false (show ¬ i<l.length by omega),cond_false]
 | succ k ih=>
  intro i M h hi hM o p
  obtain ⟨M,rfl⟩:∃ M',M=M'+1:=⟨M-1,by omega⟩
  have h1:i<l.length:=by omega
  have k3:=(cells36 o).c3
  have c0:=chg_push h (.row (dgc (0,0,0,0,())) .own)
  have o0:=own_push h (dgc (0,0,0,0,()))
  have st:(h.push (.row (dgc (0,0,0,0,())) .own)).store (h.next,0) (dgc l[i])=some ((h.push (.row (dgc (0,0,0,0,())) .own)).put h.next (.row (dgc l[i]) .own)):=o0.store rfl
  have o1:=own_put o0 (dgc l[i])
  have c1:Chg [] h ((h.push (.row (dgc (0,0,0,0,())) .own)).put h.next (.row (dgc l[i]) .own)):=c0.step (o0.put _) fun B hB hlt=>by rw [List.mem_singleton.1 hB] at hlt;omega
  generalize hH:(h.push (.row (dgc (0,0,0,0,())) .own)).put h.next (.row (dgc l[i]) .own)=H at st o1 c1
  have a0:H.cell (h.next,0)=some (.int .i64 l[i].1):=o1.cell 0
  have a1:H.cell (h.next,1)=some (.int .i64 l[i].2.1):=o1.cell 1
  have a2:H.cell (h.next,2)=some (.int .i64 l[i].2.2.1):=o1.cell 2
  have a3:H.cell (h.next,3)=some (.int .i64 l[i].2.2.2.1):=o1.cell 3
  have a4:H.cells (h.next,0) 4=some (.agg (dgc l[i])):=by rw [o1.cells (by simp [dgc])];rfl
  have K3:=(cells36 (o.chg c1 (by simp))).c3
  have P:=p.chg c1 (by simp)
  have d0:[(AV.int .i64 0),(.int .i64 0),(.int .i64 0),(.int .i64 0)]=dgc (0,0,0,0,()):=rfl
  have d1:[(AV.int .i64 l[i].1),(.int .i64 l[i].2.1),(.int .i64 l[i].2.2.1),(.int .i64 l[i].2.2.2.1)]=dgc l[i]:=rfl
  have ix:=fun {β:Type} (K:Nat×Nat→Option β)=>p.ix h1 K
  have hlen:x.2.2.2.1.len=l.length:=p.1
  rw [hlen] at ix
  have hd:l.drop i=l[i]::l.drop (i+1):=List.drop_eq_getElem_cons h1
  have hpn:prevAt l (i+1)=some l[i]:=by
   unfold prevAt
   rw [if_neg (by omega),Nat.add_sub_cancel,List.getElem?_eq_getElem h1]
  have bad:diagB l[i]=false→okFrom (prevAt l i) (l.drop i)=false:=fun e=>by
   rw [hd]
   cases prevAt l i <;> simp [okFrom,e]
  have no:okFrom (prevAt l i) (l.drop i)=false→∀ {Z:Option (Out×(Bool×Unit)×Heap)},Z=some (.ret,(false,()),H)→∃ oo h',Z=some (oo,(false,()),h')∧Chg [] h h'∧((okFrom (prevAt l i) (l.drop i)=true∧oo=.exit 0)∨(okFrom (prevAt l i) (l.drop i)=false∧oo=.ret)):=fun e Z hZ=>⟨_,_,hZ,c1,.inr ⟨e,rfl⟩⟩
  rw [f64_l1_succ]
  unfold f64_l1_b
  simp only [need_some,Nat.zero_add,k3,bindV_some,cast_slice,hlen,lt_nat,decide_eq_true h1,cond_true,ix,p.at h1,cast_dg,d0,d1,st,a0,cast_int]
  simp only [ltI]
  by_cases q1:l[i].1<0
  ·rw [decide_eq_true q1]
   exact no (bad (by simp [diagB,inB];omega)) rfl
  rw [decide_eq_false q1,cond_false]
  by_cases q2:1048576<l[i].1
  ·rw [decide_eq_true q2]
   exact no (bad (by simp [diagB,inB];omega)) rfl
  rw [decide_eq_false q2,cond_false]
  simp only [a1,bindV_some,cast_int]
  by_cases q3:l[i].2.1<1
  ·rw [decide_eq_true q3]
   exact no (bad (by simp [diagB,inB];omega)) rfl
  rw [decide_eq_false q3,cond_false]
  by_cases q4:8<l[i].2.1
  ·rw [decide_eq_true q4]
   exact no (bad (by simp [diagB,inB];omega)) rfl
  rw [decide_eq_false q4,cond_false]
  simp only [a2,bindV_some,cast_int]
  by_cases q5:l[i].2.2.1<0
  ·rw [decide_eq_true q5]
   exact no (bad (by simp [diagB,inB];omega)) rfl
  rw [decide_eq_false q5,cond_false]
  by_cases q6:64<l[i].2.2.1
  ·rw [decide_eq_true q6]
   exact no (bad (by simp [diagB,inB];omega)) rfl
  rw [decide_eq_false q6,cond_false]
  simp only [a3,bindV_some,cast_int]
  by_cases q7:l[i].2.2.2.1<0
  ·rw [decide_eq_true q7]
   exact no (bad (by simp [diagB,inB];omega)) rfl
  rw [decide_eq_false q7,cond_false]
  by_cases q8:64<l[i].2.2.2.1
  ·rw [decide_eq_true q8]
   exact no (bad (by simp [diagB,inB];omega)) rfl
  rw [decide_eq_false q8,cond_false]
  have good:diagB l[i]=true:=by simp [diagB,inB];omega
  by_cases q9:i=0
  ·rw [decide_eq_false (show ¬ (0:Int)<(i:Int) by omega),cond_false]
   obtain ⟨oo,h',e,c2,r⟩:=ih (i+1) M (by omega) (by omega) (o.chg c1 (by simp)) P
   refine ⟨oo,h',?_,c1.trans c2,?_⟩
   ·simp only [need_some,jcase_inl,wrap_succ (show i≤4000000000 by omega)]
    exact e
   ·rw [hpn] at r
    have:okFrom (prevAt l i) (l.drop i)=okFrom (some l[i]) (l.drop (i+1)):=by
     rw [hd];unfold prevAt;rw [if_pos q9];simp only [okFrom,good,Bool.true_and]
    rw [this];exact r
  ·rw [decide_eq_true (show (0:Int)<(i:Int) by omega),cond_true]
   have h2:i-1<l.length:=by omega
   have hw:wrapA .i64 ((i:Int)-1)=((i-1:Nat):Int):=by rw [wrapA_small (by omega) (by omega)];omega
   have ix2:=fun {β:Type} (K:Nat×Nat→Option β)=>P.ix h2 K
   rw [hlen] at ix2
   obtain ⟨h3,f3,c3⟩:=f107_eq (N:=N) (h:=H) l[i-1] l[i]
   have hpp:prevAt l i=some l[i-1]:=by
    unfold prevAt
    rw [if_neg q9,List.getElem?_eq_getElem h2]
   have hok:okFrom (prevAt l i) (l.drop i)=(dlt l[i-1] l[i]&&okFrom (some l[i]) (l.drop (i+1))):=by
    rw [hd,hpp];simp only [okFrom,good,Bool.true_and]
   simp only [K3,bindV_some,cast_slice,hlen,hw,ix2,P.at h2,cast_dg,a4]
   rw [show (l[i-1].1,l[i-1].2.1,l[i-1].2.2.1,l[i-1].2.2.2.1,())=l[i-1] from rfl,show (l[i].1,l[i].2.1,l[i].2.2.1,l[i].2.2.2.1,())=l[i] from rfl,f3,bind2_some]
   cases hq:dlt l[i-1] l[i] with
   | false=>exact ⟨.ret,h3,rfl,c1.trans c3,.inr ⟨by rw [hok,hq];rfl,rfl⟩⟩
   | true=>
    obtain ⟨oo,h',e,c2,r⟩:=ih (i+1) M (by omega) (by omega) ((o.chg c1 (by simp)).chg c3 (by simp)) (P.chg c3 (by simp))
    refine ⟨oo,h',?_,(c1.trans c3).trans c2,?_⟩
    ·simp only [Bool.not_true,cond_false,need_some,jcase_inl,wrap_succ (show i≤4000000000 by omega)]
     exact e
    ·rw [hpn] at r
     rw [hok,hq,Bool.true_and];exact r
theorem f64_eq (p:RC h x r) (hN:3000≤N) (hnl:r.name.length≤2000):∃ h',f64 N x h=some (mayR r,h')∧Chg [] h h':=by
 obtain ⟨h5,K,c5,e,k1,k2⟩:=f64_head p hN hnl
 have c0:=chg_push h (.row (CTy.tos T36 x) .own)
 rw [e,need_some,mayR_eq]
 cases hq:(nameB r.name&&headB' r) with
 | false=>
  refine ⟨h5,?_,c0.trans c5⟩
  rw [cond_false,k2]
  cases hn:nameB r.name with
  | false=>rfl
  | true=>rw [hn,Bool.true_and] at hq;rw [hq];rfl
 | true=>
  simp only [Bool.and_eq_true] at hq
  have hl:r.ds.length≤1000:=by
   have:=hq.2
   simp only [headB',Bool.and_eq_true,Bool.not_eq_true',decide_eq_false_iff_not] at this
   omega
  obtain ⟨oo,h',f,c,q⟩:=f64_loop (N:=N) (l:=r.ds) (by omega) r.ds.length 0 N (by omega) (by omega) ((own36 h x).chg c5 (by simp)) (p.ds.chg (c0.trans c5) (by simp))
  refine ⟨h',?_,(c0.trans c5).trans c⟩
  rw [show ((0:Nat):Int)=0 from rfl] at f
  rw [cond_true,k1,f,bind3_some,hq.1,hq.2,Bool.true_and,Bool.true_and]
  have hp:prevAt r.ds 0=none:=rfl
  rw [hp,List.drop_zero,okFrom_none] at q
  rcases q with ⟨q,rfl⟩ | ⟨q,rfl⟩
  ·rw [listB,q];rfl
  ·rw [listB,q];rfl
end
end Vp
namespace Vp
def encL:List Int→Bs
 | []=>[]
 | v::r=>encI v++encL r
def dgL (d:Dg):List Int:=[d.1,d.2.1,d.2.2.1,d.2.2.2.1]
def encDs:List Dg→Bs
 | []=>[]
 | d::r=>encL (dgL d)++encDs r
def rec_:Bs:=[85,82,69,67]
def putR (r:Rc):Bs:=encT rec_++(encT r.name++(encI r.code++(encI r.at_++(encU r.ds.length++(encDs r.ds++r.sig)))))
def I64 (v:Int):Prop:=-9223372036854775808≤v∧v≤9223372036854775807
theorem encI_len {v:Int} (h:I64 v):(encI v).length≤10:=encU_len10 (natI_lt h.1 h.2)
theorem encL_len:∀ {l:List Int},(∀ v∈l,I64 v)→(encL l).length≤10 * l.length
 | [],_=>Nat.le_refl _
 | v::r,h=>by
  have h1:=encI_len (h v List.mem_cons_self)
  have h2:=encL_len (l:=r) fun x hx=>h x (List.mem_cons_of_mem _ hx)
  simp only [encL,List.length_append,List.length_cons];omega
theorem diag_I64 {d:Dg} (h:diagB d=true):∀ v∈dgL d,I64 v:=by
 simp only [diagB,inB,Bool.and_eq_true,decide_eq_true_eq] at h
 intro v hv
 simp only [dgL,List.mem_cons,List.not_mem_nil,or_false] at hv
 rcases hv with rfl | rfl | rfl | rfl <;> (unfold I64;omega)
theorem encDs_len:∀ {l:List Dg},l.all diagB=true→(encDs l).length≤40 * l.length
 | [],_=>Nat.le_refl _
 | d::r,h=>by
  simp only [List.all_cons,Bool.and_eq_true] at h
  have h1:=encL_len (diag_I64 h.1)
  have h2:=encDs_len h.2
  simp only [encDs,List.length_append,List.length_cons]
  have:(dgL d).length=4:=rfl
  omega
def FaultAt (h:Heap) (v:AV) (c a:Int):Prop:=∃ A,v=.iface 137 (.ptr (some (A,0)))∧h.own A [.int .i64 c,.int .i64 a,.iface 22 (.int .i64 c)]
section
variable {N:Nat} {h h' h0:Heap} {x:dens T36} {r:Rc} {M:List Nat} {A:Nat} {b:Bs} {G:Nat→Prop}
theorem FaultAt.chg {v:AV} {c a:Int} (p:FaultAt h v c a) (k:Chg [] h h'):FaultAt h' v c a:=by
 obtain ⟨A,h1,h2⟩:=p
 exact ⟨A,h1,h2.chg k (by simp)⟩
theorem f25_eq {c:Int} (a:Int) (hc:c≠0):∃ v h',f25 N c a h=some (v,h')∧FaultAt h' v c a∧Chg [] h h':=by
 refine ⟨_,_,?_,⟨h.next,rfl,own_push h _⟩,chg_push h _⟩
 unfold f25
 simp only [eqI,decide_eq_false hc,cond_false]
theorem f30_l2_ok {v1:Option (Nat×Nat)} {v35:SL} {v36 v37:Int} {B:Nat} {vs:List Int} (hv:∀ v∈vs,I64 v) (h4:vs.length=4) (hN:20≤N) (hB:G B):∀ (k i M:Nat) {h:Heap} {b:Bs},i+k=4→k<M→WG G h0 h A b→h0.own B (vs.map (AV.int .i64))→b.length+10 * k≤90000000→
  ∃ h',f30_l2 N M v1 (some (A,0)) v35 v36 v37 ⟨some (B,0),4,4,1⟩ (Int.ofNat 4) (i:Int) h=some (.exit 2,(v1,some (A,0),v35,v36,v37,()),h')∧WG G h0 h' A (b++encL (vs.drop i)):=by
 intro k
 induction k with
 | zero=>
  intro i M h b hi hM p o hl
  obtain ⟨M,rfl⟩:∃ M',M=M'+1:=⟨M-1,by omega⟩
  refine ⟨h,?_,by rw [List.drop_of_length_le (by omega)];simpa [encL] using p⟩
  rw [f30_l2_succ]
  unfold f30_l2_b
  simp only [lt_nat,decide_eq_false (show ¬ i<4 by omega),cond_false]
 | succ k ih=>
  intro i M h b hi hM p o hl
  obtain ⟨M,rfl⟩:∃ M',M=M'+1:=⟨M-1,by omega⟩
  have hi4:i<vs.length:=by omega
  have hr:=hv _ (List.getElem_mem hi4)
  obtain ⟨h1,e1,p1⟩:=f28_eq (N:=N) p hr.1 hr.2 (by omega) hN
  have ob:h.own B (vs.map (AV.int .i64)):=⟨(p.fr.g B hB).trans o.1,Nat.lt_of_lt_of_le o.2 p.fr.next⟩
  have hc:h.cell (B,i)=some (.int .i64 vs[i]):=by rw [ob.cell,List.getElem?_map,List.getElem?_eq_getElem hi4];rfl
  have hlen:=encI_len hr
  obtain ⟨h2,e2,p2⟩:=ih (i+1) M (by omega) (by omega) p1 o (by rw [List.length_append];omega)
  refine ⟨h2,?_,by rw [List.drop_eq_getElem_cons hi4];simp only [encL];rw [← List.append_assoc];exact p2⟩
  rw [f30_l2_succ]
  unfold f30_l2_b
  simp only [lt_nat,decide_eq_true (show i<4 by omega),cond_true]
  rw [show (i:Int)=Int.ofNat i from rfl,ixK_of _ _ _ _ _ (show i<4 by omega)]
  simp only [Nat.zero_add,Nat.mul_one,hc,bindV_some,cast_int,e1,bind2_some]
  rw [show Int.ofNat i=(i:Int) from rfl,wrap_succ (by omega)]
  exact e2
theorem f30_l1_ok {v1:Option (Nat×Nat)} {s:SL} {l:List Dg} (hd:l.all diagB=true) (hl:l.length≤1000) (hN:2000≤N) (p0:Ds h0 s l):∀ (k i M:Nat) {h:Heap} {b:Bs},i+k=l.length→k<M→WQ h0 h A b→b.length+40 * k≤80000000→
  ∃ h',f30_l1 N M v1 (some (A,0)) s (l.length:Int) (i:Int) h=some (.exit 0,(v1,some (A,0),()),h')∧WQ h0 h' A (b++encDs (l.drop i)):=by
 intro k
 induction k with
 | zero=>
  intro i M h b hi hM p hb
  obtain ⟨M,rfl⟩:∃ M',M=M'+1:=⟨M-1,by omega⟩
  refine ⟨h,?_,by rw [List.drop_of_length_le (by omega)];simpa [encDs] using p⟩
  rw [f30_l1_succ]
  unfold f30_l1_b
  simp only [lt_nat',decide_eq_false (show ¬ i<l.length by omega),cond_false]
 | succ k ih=>
  intro i M h b hi hM p hb
  obtain ⟨M,rfl⟩:∃ M',M=M'+1:=⟨M-1,by omega⟩
  have h1:i<l.length:=by omega
  have pd:=p0.chg p.base (by simp)
  have hdi:diagB l[i]=true:=List.all_eq_true.1 hd _ (List.getElem_mem h1)
  have c0:=chg_push h (.row (dgc (0,0,0,0,())) .own)
  have o0:=own_push h (dgc (0,0,0,0,()))
  have st:(h.push (.row (dgc (0,0,0,0,())) .own)).store (h.next,0) (dgc l[i])=some ((h.push (.row (dgc (0,0,0,0,())) .own)).put h.next (.row (dgc l[i]) .own)):=o0.store rfl
  have o1:=own_put o0 (dgc l[i])
  have c1:Chg [] h ((h.push (.row (dgc (0,0,0,0,())) .own)).put h.next (.row (dgc l[i]) .own)):=c0.step (o0.put _) fun B hB hlt=>by rw [List.mem_singleton.1 hB] at hlt;omega
  have hnx:((h.push (.row (dgc (0,0,0,0,())) .own)).put h.next (.row (dgc l[i]) .own)).next=h.next+1:=rfl
  generalize hH:(h.push (.row (dgc (0,0,0,0,())) .own)).put h.next (.row (dgc l[i]) .own)=H at st o1 c1 hnx
  have a0:H.cell (h.next,0)=some (.int .i64 l[i].1):=o1.cell 0
  have a1:H.cell (h.next,1)=some (.int .i64 l[i].2.1):=o1.cell 1
  have a2:H.cell (h.next,2)=some (.int .i64 l[i].2.2.1):=o1.cell 2
  have a3:H.cell (h.next,3)=some (.int .i64 l[i].2.2.2.1):=o1.cell 3
  have c2:Chg [] h (H.push (.row ((dgL l[i]).map (AV.int .i64)) .own)):=c1.trans (chg_push _ _)
  obtain ⟨G,g1,g2,g3⟩:=p.rebase c2
  have oT:=own_push H ((dgL l[i]).map (AV.int .i64))
  obtain ⟨h2,e2,q2⟩:=f30_l2_ok (N:=N) (v1:=v1) (v35:=s) (v36:=(l.length:Int)) (v37:=(i:Int)) (diag_I64 hdi) rfl (by omega) (g3 H.next (by omega) oT.2) 4 0 N (by omega) (by omega) g1 oT (by omega)
  have q:=p.back c2 g2 q2
  have hlen:=encL_len (diag_I64 hdi)
  have h4:(dgL l[i]).length=4:=rfl
  obtain ⟨h3,e3,q3⟩:=ih (i+1) M (by omega) (by omega) q (by rw [List.drop_zero,List.length_append];omega)
  refine ⟨h3,?_,by rw [List.drop_eq_getElem_cons h1];simp only [encDs];rw [← List.append_assoc];exact q3⟩
  have d0:[(AV.int .i64 0),(.int .i64 0),(.int .i64 0),(.int .i64 0)]=dgc (0,0,0,0,()):=rfl
  have d1:[(AV.int .i64 l[i].1),(.int .i64 l[i].2.1),(.int .i64 l[i].2.2.1),(.int .i64 l[i].2.2.2.1)]=dgc l[i]:=rfl
  have d2:dgc l[i]=(dgL l[i]).map (AV.int .i64):=rfl
  rw [show ((0:Nat):Int)=0 from rfl] at e2
  rw [f30_l1_succ]
  unfold f30_l1_b
  simp only [lt_nat',decide_eq_true h1,cond_true,pd.ix h1,pd.at h1,bindV_some,cast_dg,d0,d1,st,need_some,Nat.zero_add,a0,a1,a2,a3,cast_int]
  rw [d2,e2]
  simp only [bind3_some,wrap_succ (show i≤4000000000 by omega)]
  exact e3
end
end Vp
namespace Vp
structure MayR (r:Rc):Prop where
 code:I64 r.code
 at_:I64 r.at_
 len:r.ds.length≤1000
 all:r.ds.all diagB=true
theorem mayR_may {r:Rc} (h:mayR r=true):MayR r:=by
 simp only [mayR,Bool.and_eq_true,decide_eq_true_eq,listB] at h
 obtain ⟨h1,h2,h3,h4,h5,h6,h7,h8⟩:=h
 simp only [inB,Bool.and_eq_true,decide_eq_true_eq] at h3
 refine ⟨?_,⟨by omega,by omega⟩,h4,h8⟩
 simp only [codeB,inB,Bool.or_eq_true,Bool.and_eq_true,decide_eq_true_eq] at h2
 unfold I64
 omega
section
variable {N:Nat} {h h':Heap} {x:dens T36} {r:Rc}
theorem f30_bad (p:RC h x r) (hN:3000≤N) (hm:mayR r=false):∃ v h',f30 N x h=some ((⟨none,0,0,0⟩,v,()),h')∧FaultAt h' v 1 0∧Chg [] h h':=by
 have c0:=chg_push h (.row (CTy.tos T36 x) .own)
 have cc:(h.push (.row (CTy.tos T36 x) .own)).cells (h.next,0) 36=some (.agg (CTy.tos T36 x)):=by rw [(own36 h x).cells (j:=0) (m:=36) (by show 0+36≤36;omega)];rfl
 obtain ⟨h2,e2,c2⟩:=f63_eq (N:=N) (p.chg c0) hN
 obtain ⟨v,h3,e3,q,c3⟩:=f25_eq (N:=N) (h:=h2) 0 (show (1:Int)≠0 by omega)
 refine ⟨v,h3,?_,q,(c0.trans c2).trans c3⟩
 rw [hm] at e2
 unfold f30
 simp only [cc,bindV_some,cast36,e2,bind2_some,Bool.not_false,cond_true,e3]
theorem f30_good (p:RC h x r) (hN:3000≤N) (hn:r.name.length≤2000) (hm:mayR r=true):∃ s h',f30 N x h=some ((s,AV.nilIface,()),h')∧Bt h' s (putR r)∧Chg [] h h':=by
 have m:=mayR_may hm
 have c0:=chg_push h (.row (CTy.tos T36 x) .own)
 have cc:(h.push (.row (CTy.tos T36 x) .own)).cells (h.next,0) 36=some (.agg (CTy.tos T36 x)):=by rw [(own36 h x).cells (j:=0) (m:=36) (by show 0+36≤36;omega)];rfl
 obtain ⟨h4,e4,c4⟩:=f63_eq (N:=N) (p.chg c0) hN
 rw [hm] at e4
 have o4:=(own36 h x).chg c4 (by simp)
 have p4:=(p.chg c0).chg c4
 have hlt:h.next<h4.next:=Nat.lt_of_lt_of_le (Nat.lt_succ_self _) c4.next
 obtain ⟨e9,w9⟩:=f26_eq (N:=N) (h:=h4)
 generalize hH9:h4.push (.row [SL.av ⟨none,0,0,0⟩] .own)=h9 at e9 w9
 have ow:∀ {H:Heap} {b:Bs},WQ h4 H h4.next b→Cells H h.next x:=fun w=>cells36 (o4.chg (WQ.base w) (by simp))
 obtain ⟨n0,n1,n2,nd,n3⟩:x.1=r.name∧x.2.1=r.code∧x.2.2.1=r.at_∧x.2.2.2.1.len=r.ds.length∧True:=⟨p.name,p.code,p.at_,p.ds.1,trivial⟩
 obtain ⟨h11,e11,w11⟩:=f27_eq (N:=N) w9 (x:=rec_) (by simp [rec_]) (by simp) (by omega)
 have k11:=(ow w11).c0
 rw [n0] at k11
 have l1:(encT rec_).length≤20:=by rw [encT,List.length_append];have:=encU_len10 (n:=rec_.length) (by simp [rec_]);simp only [rec_,List.length_cons,List.length_nil] at *;omega
 rw [List.nil_append] at w11
 obtain ⟨h14,e14,w14⟩:=f27_eq (N:=N) w11 (x:=r.name) (by omega) (by omega) (by omega)
 have l2:(encT r.name).length≤2010:=by rw [encT,List.length_append];have:=encU_len10 (n:=r.name.length) (by omega);omega
 have k14:=(ow w14).c1
 rw [n1] at k14
 obtain ⟨h17,e17,w17⟩:=f28_eq (N:=N) w14 m.code.1 m.code.2 (by rw [List.length_append];omega) (by omega)
 have l3:=encI_len m.code
 have k17:=(ow w17).c2
 rw [n2] at k17
 obtain ⟨h20,e20,w20⟩:=f28_eq (N:=N) w17 m.at_.1 m.at_.2 (by simp only [List.length_append];omega) (by omega)
 have l4:=encI_len m.at_
 have k20:=(ow w20).c3
 have ml:=m.len
 obtain ⟨h24,e24,w24⟩:=f29_eq (N:=N) w20 (n:=r.ds.length) (by omega) (by simp only [List.length_append];omega) (by omega)
 have l5:=encU_len10 (n:=r.ds.length) (by omega)
 have k24:=(ow w24).c3
 obtain ⟨h48,e48,w48⟩:=f30_l1_ok (N:=N) (v1:=some (h.next,0)) m.all ml (by omega) p4.ds r.ds.length 0 N (by omega) (by omega) w24 (by simp only [List.length_append];omega)
 rw [List.drop_zero] at w48
 have l6:=encDs_len m.all
 have k48:=(ow w48).c4
 obtain ⟨h52,e52,w52⟩:=f31_eq (N:=N) w48 p.sig (by simp only [List.length_append];omega)
 have l7:=p.sig.len
 obtain ⟨s,h54,e54,q,c54⟩:=f32_eq (N:=N) w52 (by simp only [List.length_append];omega)
 refine ⟨s,h54,?_,?_,((c0.trans c4).trans (WQ.base w52)).trans c54⟩
 ·rw [show ((0:Nat):Int)=0 from rfl] at e48
  rw [show rec_=[85,82,69,67] from rfl] at e11
  unfold f30
  simp only [cc,bindV_some,cast36,e4,bind2_some,Bool.not_true,cond_false,e9,e11,Nat.zero_add,k11,cast_str,e14,k14,cast_int,e17,k17,e20,k20,cast_slice,nd]
  rw [show Int.ofNat r.ds.length=(r.ds.length:Int) from rfl,wr64s (by omega)]
  have hs:(⟨x.2.2.2.1.a,r.ds.length,x.2.2.2.1.cap,x.2.2.2.1.sz⟩:SL)=x.2.2.2.1:=by rw [← nd]
  rw [nd] at k24
  simp only [e24,bind2_some,k24,bindV_some,cast_slice,hs]
  rw [show Int.ofNat r.ds.length=(r.ds.length:Int) from rfl,e48]
  simp only [bind3_some,need_some,Nat.zero_add,k48,bindV_some,cast32,e52,bind2_some,e54]
 ·simpa only [putR,List.append_assoc] using q
end
end Vp
namespace Vp
section
variable {N:Nat} {h h':Heap} {x:dens T36} {r:Rc} {A:Nat}
theorem f34_len {v:Int} (hv:I64 v) (hN:20≤N):∃ h',f34 N v h=some (encI v,h')∧Chg [] h h':=f34_eq hv.1 hv.2 hN
theorem f36_loop {l:List Dg} (hd:l.all diagB=true) (hl:l.length≤1000) (hN:2000≤N) (hds:x.2.2.2.1.len=l.length):∀ (k i M:Nat) {h:Heap} {b:Bs},i+k=l.length→k<M→h.own A (CTy.tos T36 x)→Ds h x.2.2.2.1 l→b.length+40 * k≤80000000→
  ∃ h',f36_l1 N M (some (A,0)) b (i:Int) h=some (.exit 0,(some (A,0),b++encDs (l.drop i),()),h')∧Chg [] h h':=by
 intro k
 induction k with
 | zero=>
  intro i M h b hi hM o P hb
  obtain ⟨M,rfl⟩:∃ M',M=M'+1:=⟨M-1,by omega⟩
  have k3:=(cells36 o).c3
  refine ⟨h,?_,Chg.refl _ _⟩
  rw [f36_l1_succ]
  unfold f36_l1_b
  simp only [need_some,Nat.zero_add,k3,bindV_some,cast_slice,hds,lt_nat,decide_eq_false (show ¬ i<l.length by omega),cond_false]
  rw [List.drop_of_length_le (by omega),encDs,List.append_nil]
 | succ k ih=>
  intro i M h b hi hM o P hb
  obtain ⟨M,rfl⟩:∃ M',M=M'+1:=⟨M-1,by omega⟩
  have h1:i<l.length:=by omega
  have k3:=(cells36 o).c3
  have hdi:diagB l[i]=true:=List.all_eq_true.1 hd _ (List.getElem_mem h1)
  have vI:=diag_I64 hdi
  have v1:I64 l[i].1:=vI _ (by simp [dgL])
  have v2:I64 l[i].2.1:=vI _ (by simp [dgL])
  have v3:I64 l[i].2.2.1:=vI _ (by simp [dgL])
  have v4:I64 l[i].2.2.2.1:=vI _ (by simp [dgL])
  have c0:=chg_push h (.row (dgc (0,0,0,0,())) .own)
  have o0:=own_push h (dgc (0,0,0,0,()))
  have st:(h.push (.row (dgc (0,0,0,0,())) .own)).store (h.next,0) (dgc l[i])=some ((h.push (.row (dgc (0,0,0,0,())) .own)).put h.next (.row (dgc l[i]) .own)):=o0.store rfl
  have o1:=own_put o0 (dgc l[i])
  have c1:Chg [] h ((h.push (.row (dgc (0,0,0,0,())) .own)).put h.next (.row (dgc l[i]) .own)):=c0.step (o0.put _) fun B hB hlt=>by rw [List.mem_singleton.1 hB] at hlt;omega
  generalize hH:(h.push (.row (dgc (0,0,0,0,())) .own)).put h.next (.row (dgc l[i]) .own)=h33 at st o1 c1
  obtain ⟨h36,e1,d1⟩:=f34_len (N:=N) (h:=h33) v1 (by omega)
  have o2:=o1.chg d1 (by simp)
  obtain ⟨h40,e2,d2⟩:=f34_len (N:=N) (h:=h36) v2 (by omega)
  have o3:=o2.chg d2 (by simp)
  obtain ⟨h44,e3,d3⟩:=f34_len (N:=N) (h:=h40) v3 (by omega)
  have o4:=o3.chg d3 (by simp)
  obtain ⟨h48,e4,d4⟩:=f34_len (N:=N) (h:=h44) v4 (by omega)
  have l1:=encI_len v1;have l2:=encI_len v2;have l3:=encI_len v3;have l4:=encI_len v4
  have cs:=fun {H:Heap} (q:H.own h.next (dgc l[i]))=>(show H.cell (h.next,0)=some (.int .i64 l[i].1)∧H.cell (h.next,1)=some (.int .i64 l[i].2.1)∧H.cell (h.next,2)=some (.int .i64 l[i].2.2.1)∧H.cell (h.next,3)=some (.int .i64 l[i].2.2.2.1) from ⟨q.cell 0,q.cell 1,q.cell 2,q.cell 3⟩)
  obtain ⟨a0,a1,a2,a3⟩:=cs o1
  obtain ⟨b0,b1,b2,b3⟩:=cs o2
  obtain ⟨g0,g1,g2,g3⟩:=cs o3
  obtain ⟨j0,j1,j2,j3⟩:=cs o4
  have cT:=(((c1.trans d1).trans d2).trans d3).trans d4
  obtain ⟨h',e,c⟩:=ih (i+1) M (h:=h48) (b:=(((b++encI l[i].1)++encI l[i].2.1)++encI l[i].2.2.1)++encI l[i].2.2.2.1) (by omega) (by omega) (o.chg cT (by simp)) (P.chg cT (by simp)) (by simp only [List.length_append];omega)
  refine ⟨h',?_,cT.trans c⟩
  have d0:[(AV.int .i64 0),(.int .i64 0),(.int .i64 0),(.int .i64 0)]=dgc (0,0,0,0,()):=rfl
  have d5:[(AV.int .i64 l[i].1),(.int .i64 l[i].2.1),(.int .i64 l[i].2.2.1),(.int .i64 l[i].2.2.2.1)]=dgc l[i]:=rfl
  have ix:=fun {β:Type} (K:Nat×Nat→Option β)=>P.ix h1 K
  rw [hds] at ix
  rw [f36_l1_succ]
  unfold f36_l1_b
  simp only [need_some,Nat.zero_add,k3,bindV_some,cast_slice,hds,lt_nat,decide_eq_true h1,cond_true,ix,P.at h1,cast_dg,d0,d5,st,a0,a1,a2,a3,b1,b2,b3,g2,g3,j3,cast_int,e1,e2,e3,e4,bind2_some,same_refl]
  rw [add_str (by omega)]
  simp only [bindV_some,cast_str]
  rw [add_str (by simp only [List.length_append];omega)]
  simp only [bindV_some,cast_str]
  rw [add_str (by simp only [List.length_append];omega)]
  simp only [bindV_some,cast_str]
  rw [add_str (by simp only [List.length_append];omega)]
  simp only [bindV_some,cast_str,guardB,wrap_succ (show i≤4000000000 by omega),cond_true]
  rw [e,List.drop_eq_getElem_cons h1]
  simp only [encDs,encL,dgL,List.append_assoc,List.nil_append,List.append_nil]
theorem f36_bad (p:RC h x r) (hN:3000≤N) (hn:r.name.length≤2000) (hm:mayR r=false):∃ h',f36 N x h=some (([],1,()),h')∧Chg [] h h':=by
 have c0:=chg_push h (.row (CTy.tos T36 x) .own)
 have cc:(h.push (.row (CTy.tos T36 x) .own)).cells (h.next,0) 36=some (.agg (CTy.tos T36 x)):=by rw [(own36 h x).cells (j:=0) (m:=36) (by show 0+36≤36;omega)];rfl
 obtain ⟨h2,e2,c2⟩:=f64_eq (N:=N) (p.chg c0) hN hn
 refine ⟨h2,?_,c0.trans c2⟩
 rw [hm] at e2
 unfold f36
 simp only [cc,bindV_some,cast36,e2,bind2_some,Bool.not_false,cond_true]
theorem f36_good (p:RC h x r) (hN:3000≤N) (hn:r.name.length≤2000) (hm:mayR r=true):∃ h',f36 N x h=some ((putR r,0,()),h')∧Chg [] h h':=by
 have m:=mayR_may hm
 have c0:=chg_push h (.row (CTy.tos T36 x) .own)
 have cc:(h.push (.row (CTy.tos T36 x) .own)).cells (h.next,0) 36=some (.agg (CTy.tos T36 x)):=by rw [(own36 h x).cells (j:=0) (m:=36) (by show 0+36≤36;omega)];rfl
 obtain ⟨h4,e4,c4⟩:=f64_eq (N:=N) (p.chg c0) hN hn
 rw [hm] at e4
 have o4:=(own36 h x).chg c4 (by simp)
 obtain ⟨n0,n1,n2,nd⟩:x.1=r.name∧x.2.1=r.code∧x.2.2.1=r.at_∧x.2.2.2.1.len=r.ds.length:=⟨p.name,p.code,p.at_,p.ds.1⟩
 have ml:=m.len
 obtain ⟨h7,e7,d7⟩:=f33_eq (N:=N) (h:=h4) (x:=rec_) (by simp [rec_]) (by omega)
 have o7:=o4.chg d7 (by simp)
 obtain ⟨h10,e10,d10⟩:=f33_eq (N:=N) (h:=h7) (x:=r.name) (by omega) (by omega)
 have o10:=o7.chg d10 (by simp)
 obtain ⟨h14,e14,d14⟩:=f34_len (N:=N) (h:=h10) m.code (by omega)
 have o14:=o10.chg d14 (by simp)
 obtain ⟨h18,e18,d18⟩:=f34_len (N:=N) (h:=h14) m.at_ (by omega)
 have o18:=o14.chg d18 (by simp)
 obtain ⟨h23,e23,d23⟩:=f35_eq (N:=N) (h:=h18) (n:=r.ds.length) (by omega) (by omega)
 have o23:=o18.chg d23 (by simp)
 have c23:=(((((c0.trans c4).trans d7).trans d10).trans d14).trans d18).trans d23
 have l1:(encT rec_).length≤20:=by rw [encT,List.length_append];have:=encU_len10 (n:=rec_.length) (by simp [rec_]);simp only [rec_,List.length_cons,List.length_nil] at *;omega
 have l2:(encT r.name).length≤2010:=by rw [encT,List.length_append];have:=encU_len10 (n:=r.name.length) (by omega);omega
 have l3:=encI_len m.code
 have l4:=encI_len m.at_
 have l5:=encU_len10 (n:=r.ds.length) (by omega)
 have l6:=encDs_len m.all
 have l7:=p.sig.len
 obtain ⟨h53,e53,d53⟩:=f36_loop (N:=N) (x:=x) m.all ml (by omega) nd r.ds.length 0 N (h:=h23) (b:=(((encT rec_++encT r.name)++encI r.code)++encI r.at_)++encU r.ds.length) (by omega) (by omega) o23 (p.ds.chg c23 (by simp)) (by simp only [List.length_append];omega)
 have o53:=o23.chg d53 (by simp)
 obtain ⟨h57,e57,d57⟩:=f37_eq (N:=N) (h:=h53) p.sig (by omega)
 refine ⟨h57,?_,(c23.trans d53).trans d57⟩
 have z4:=cells36 o4;have z7:=cells36 o7;have z10:=cells36 o10;have z14:=cells36 o14;have z18:=cells36 o18;have z53:=cells36 o53
 have a0:=z4.c0;have a1:=z4.c1;have a2:=z4.c2;have a3:=z4.c3
 have b0:=z7.c0;have b1:=z7.c1;have b2:=z7.c2;have b3:=z7.c3
 have g1:=z10.c1;have g2:=z10.c2;have g3:=z10.c3
 have j2:=z14.c2;have j3:=z14.c3
 have k3:=z18.c3
 rw [n0] at a0 b0
 rw [n1] at a1 b1 g1
 rw [n2] at a2 b2 g2 j2
 rw [nd] at a3 b3 g3 j3 k3
 rw [show ((0:Nat):Int)=0 from rfl,List.drop_zero] at e53
 rw [show rec_=[85,82,69,67] from rfl] at e7
 have hw:wrapA .u64 (Int.ofNat r.ds.length)=(r.ds.length:Int):=wr64s (by omega)
 unfold f36
 simp only [cc,bindV_some,cast36,e4,bind2_some,Bool.not_true,cond_false,cond_true,e7,Nat.zero_add,a0,a1,a2,a3,b0,b1,b2,b3,g1,g2,g3,j2,j3,k3,cast_str,cast_int,cast_slice,e10,e14,e18,e23,hw,same_refl]
 rw [← show rec_=[85,82,69,67] from rfl]
 rw [add_str (by omega)]
 simp only [bindV_some,cast_str]
 rw [add_str (by simp only [List.length_append];omega)]
 simp only [bindV_some,cast_str]
 rw [add_str (by simp only [List.length_append];omega)]
 simp only [bindV_some,cast_str]
 rw [add_str (by simp only [List.length_append];omega)]
 simp only [bindV_some,cast_str,guardB,cond_true]
 rw [e53]
 simp only [bind3_some,need_some,Nat.zero_add,z53.c4,bindV_some,cast32,e57,bind2_some]
 rw [add_str (by simp only [List.length_append];omega)]
 simp only [bindV_some,cast_str,putR,List.append_assoc]
end
end Vp
namespace Vp
def flatR:List (dens T36)→List AV
 | []=>[]
 | x::r=>CTy.tos T36 x++flatR r
theorem tos36_len (x:dens T36):(CTy.tos T36 x).length=36:=rfl
theorem flatR_at:∀ (l:List (dens T36)) (i:Nat) (hi:i<l.length),((flatR l).drop (i * 36)).take 36=CTy.tos T36 l[i]
 | x::r,0,_=>by
  simp only [flatR,Nat.zero_mul,List.drop_zero]
  rw [List.take_append_of_le_length (by rw [tos36_len];omega),List.take_of_length_le (by rw [tos36_len];omega)];rfl
 | x::r,i+1,hi=>by
  have e:(flatR (x::r)).drop ((i+1) * 36)=(flatR r).drop (i * 36):=by
   rw [Nat.succ_mul,Nat.add_comm,← List.drop_drop]
   simp only [flatR]
   have:(CTy.tos T36 x++flatR r).drop 36=flatR r:=by rw [List.drop_append_of_le_length (by rw [tos36_len];omega),List.drop_of_length_le (l:=CTy.tos T36 x) (by rw [tos36_len];omega)];rfl
   rw [this]
  rw [e];exact flatR_at r i (by simpa using hi)
structure Rs (h:Heap) (s:SL) (xs:List (dens T36)) (l:List Rc):Prop where
 len:s.len=l.length
 sz:s.sz=36∨s.len=0
 sees:Sees h s (flatR xs)
 eqn:xs.length=l.length
 rcs:∀ i (h1:i<xs.length) (h2:i<l.length),RC h xs[i] l[i]
structure Vd where
 code:Int
 at_:Int
 rs:List Rc
 root:Bs
structure VC (h:Heap) (x:dens T35) (xs:List (dens T36)) (v:Vd):Prop where
 code:x.1=v.code
 at_:x.2.1=v.at_
 rs:Rs h x.2.2.1 xs v.rs
 root:HB x.2.2.2 v.root
def mayV (v:Vd):Bool:=inB 0 44 v.code&&(inB 0 4194304 v.at_&&(decide (v.rs.length≤64)&&v.rs.all mayR))
def ver_:Bs:=[85,86,69,82]
def encRs:List Rc→Bs
 | []=>[]
 | r::l=>encT (putR r)++encRs l
def putV (v:Vd):Bs:=encT ver_++(encI v.code++(encI v.at_++(encU v.rs.length++(encRs v.rs++v.root))))
def shortN (l:List Rc):Prop:=∀ r∈l,r.name.length≤2000∧r.sig.length=32
section
variable {N:Nat} {h h' h0:Heap} {x:dens T35} {s:SL} {xs:List (dens T36)} {l:List Rc} {v:Vd} {A:Nat}
theorem Rs.chg (p:Rs h s xs l) (c:Chg [] h h'):Rs h' s xs l:=⟨p.len,p.sz,p.sees.chg c (by simp),p.eqn,fun i a b=>(p.rcs i a b).chg c⟩
theorem Rs.at (p:Rs h s xs l) {i:Nat} (hi:i<xs.length):h.cells (s.at i 36) 36=some (.agg (CTy.tos T36 xs[i])):=by
 have hl:i<s.len:=by rw [p.len,← p.eqn];exact hi
 have hz:s.sz=36:=p.sz.resolve_right (by omega)
 rw [p.sees.cells hz hl,flatR_at xs i hi]
theorem Rs.ix (p:Rs h s xs l) {i:Nat} (hi:i<l.length) {β:Type} (K:Nat×Nat→Option β):ixK s.a s.len (i:Int) 36 K=K (s.at i 36):=by
 have hl:i<s.len:=by rw [p.len];exact hi
 exact ixK_at (p.sees.isSome (by omega)) hl K
theorem VC.chg (p:VC h x xs v) (c:Chg [] h h'):VC h' x xs v:=⟨p.code,p.at_,p.rs.chg c,p.root⟩
structure CellsV (h:Heap) (A:Nat) (x:dens T35):Prop where
 c0:h.cell (A,0)=some (.int .i64 x.1)
 c1:h.cell (A,1)=some (.int .i64 x.2.1)
 c2:h.cell (A,2)=some (.slice x.2.2.1.a x.2.2.1.len x.2.2.1.cap x.2.2.1.sz)
 c3:h.cells (A,3) 32=some (.agg (CTy.tos T32 x.2.2.2))
 all:h.cells (A,0) 35=some (.agg (CTy.tos T35 x))
theorem cells35 (o:h.own A (CTy.tos T35 x)):CellsV h A x:=by
 refine ⟨o.cell 0,o.cell 1,o.cell 2,?_,?_⟩
 ·rw [o.cells (by show 3+32≤35;omega)];rfl
 ·rw [o.cells (by show 0+35≤35;omega)];rfl
theorem own35 (h:Heap) (x:dens T35):(h.push (.row (CTy.tos T35 x) .own)).own h.next (CTy.tos T35 x):=own_push h _
theorem cast35 {β:Type} (x:dens T35) (K:dens T35→Option β):(Ty.val (.agg T35)).cast (.agg (CTy.tos T35 x)) K=K x:=CTy.casts_tos T35 x K
theorem nil34:binA E .neq 34 (.tmp 63) (.const .nilIface) AV.nilIface AV.nilIface=some (.bool false):=by kernel_rfl
theorem putR_len {r:Rc} (hm:mayR r=true) (hn:r.name.length≤2000) (hs:r.sig.length=32):(putR r).length≤50000:=by
 have m:=mayR_may hm
 have ml:=m.len
 have l1:(encT rec_).length≤20:=by rw [encT,List.length_append];have:=encU_len10 (n:=rec_.length) (by simp [rec_]);simp only [rec_,List.length_cons,List.length_nil] at *;omega
 have l2:(encT r.name).length≤2010:=by rw [encT,List.length_append];have:=encU_len10 (n:=r.name.length) (by omega);omega
 have l3:=encI_len m.code
 have l4:=encI_len m.at_
 have l5:=encU_len10 (n:=r.ds.length) (by omega)
 have l6:=encDs_len m.all
 simp only [putR,List.length_append];omega
theorem encT_len {x:Bs} (h:x.length≤100000000):(encT x).length≤x.length+10:=by
 rw [encT,List.length_append];have:=encU_len10 (n:=x.length) (by omega);omega
theorem f7_loop {v1:Option (Nat×Nat)} {v2:SL} (p0:Rs h0 s xs l) (hsn:shortN l) (hN:3000≤N) (hl:l.length≤64):∀ (k i M:Nat) {h:Heap} {b:Bs},i+k=l.length→k<M→WQ h0 h A b→b.length+60000 * k≤80000000→
  (∃ h',(l.drop i).all mayR=true∧f7_l1 N M v1 v2 AV.nilIface (some (A,0)) s (l.length:Int) (i:Int) h=some (.exit 0,(v1,v2,AV.nilIface,some (A,0),()),h')∧WQ h0 h' A (b++encRs (l.drop i)))∨
  (∃ e h',(l.drop i).all mayR=false∧f7_l1 N M v1 v2 AV.nilIface (some (A,0)) s (l.length:Int) (i:Int) h=some (.ret,(v1,⟨none,0,0,0⟩,e,some (A,0),()),h')∧FaultAt h' e 1 0∧Chg [] h0 h'):=by
 intro k
 induction k with
 | zero=>
  intro i M h b hi hM p hb
  obtain ⟨M,rfl⟩:∃ M',M=M'+1:=⟨M-1,by omega⟩
  refine .inl ⟨h,by rw [List.drop_of_length_le (by omega)];rfl,?_,by rw [List.drop_of_length_le (by omega)];simpa [encRs] using p⟩
  rw [f7_l1_succ]
  unfold f7_l1_b
  simp only [lt_nat',decide_eq_false (show ¬ i<l.length by omega),cond_false]
 | succ k ih=>
  intro i M h b hi hM p hb
  obtain ⟨M,rfl⟩:∃ M',M=M'+1:=⟨M-1,by omega⟩
  have h1:i<l.length:=by omega
  have h2:i<xs.length:=by rw [p0.eqn];exact h1
  have P:=p0.chg (WQ.base p)
  have hd:=List.drop_eq_getElem_cons h1
  have hsn1:=hsn l[i] (List.getElem_mem h1)
  have c0:=chg_push h (.row ((.str [])::(.int .i64 0)::(.int .i64 0)::(.slice none 0 0 0)::CTy.tos T32 z32) .own)
  have o0:=own_push h ((.str [])::(.int .i64 0)::(.int .i64 0)::(.slice none 0 0 0)::CTy.tos T32 z32)
  have st:(h.push (.row ((.str [])::(.int .i64 0)::(.int .i64 0)::(.slice none 0 0 0)::CTy.tos T32 z32) .own)).store (h.next,0) (CTy.tos T36 xs[i])=some ((h.push (.row ((.str [])::(.int .i64 0)::(.int .i64 0)::(.slice none 0 0 0)::CTy.tos T32 z32) .own)).put h.next (.row (CTy.tos T36 xs[i]) .own)):=o0.store rfl
  have o1:=own_put o0 (CTy.tos T36 xs[i])
  have c1:Chg [] h ((h.push (.row ((.str [])::(.int .i64 0)::(.int .i64 0)::(.slice none 0 0 0)::CTy.tos T32 z32) .own)).put h.next (.row (CTy.tos T36 xs[i]) .own)):=c0.step (o0.put _) fun B hB hlt=>by rw [List.mem_singleton.1 hB] at hlt;omega
  generalize hH:(h.push (.row ((.str [])::(.int .i64 0)::(.int .i64 0)::(.slice none 0 0 0)::CTy.tos T32 z32) .own)).put h.next (.row (CTy.tos T36 xs[i]) .own)=h41 at st o1 c1
  have cc:h41.cells (h.next,0) 36=some (.agg (CTy.tos T36 xs[i])):=by rw [o1.cells (j:=0) (m:=36) (by show 0+36≤36;omega)];rfl
  have pr:=(P.rcs i h2 h1).chg c1
  cases hm:mayR l[i] with
  | true=>
   obtain ⟨s',h44,e1,q1,d1⟩:=f30_good (N:=N) pr hN hsn1.1 hm
   have hlen:=putR_len hm hsn1.1 hsn1.2
   have hlen2:=encT_len (x:=putR l[i]) (by omega)
   obtain ⟨h50,e2,w2⟩:=f27_eq (N:=N) ((WG.chg p c1).chg d1) (x:=putR l[i]) (by omega) (by omega) (by omega)
   have step:f7_l1 N (M+1) v1 v2 AV.nilIface (some (A,0)) s (l.length:Int) (i:Int) h=f7_l1 N M v1 v2 AV.nilIface (some (A,0)) s (l.length:Int) ((i+1:Nat):Int) h50:=by
    rw [f7_l1_succ]
    unfold f7_l1_b
    simp only [lt_nat',decide_eq_true h1,cond_true,P.ix h1,P.at h2,bindV_some,cast36,st,need_some,cc,e1,bind2_some,nil34,cast_bool,cond_false,q1.conv,cast_str,e2,wrap_succ (show i≤4000000000 by omega)]
   rcases ih (i+1) M (h:=h50) (by omega) (by omega) w2 (by rw [List.length_append];omega) with ⟨h',a1,a2,a3⟩ | ⟨e,h',a1,a2,a3,a4⟩
   ·refine .inl ⟨h',by rw [hd,List.all_cons,hm,a1];rfl,by rw [step,a2],?_⟩
    rw [hd];simp only [encRs];rw [← List.append_assoc];exact a3
   ·exact .inr ⟨e,h',by rw [hd,List.all_cons,hm,a1];rfl,by rw [step,a2],a3,a4⟩
  | false=>
   obtain ⟨e,h44,e1,⟨B,rfl,_⟩,d1⟩:=f30_bad (N:=N) pr hN hm
   obtain ⟨e2,h47,e3,q3,d3⟩:=f25_eq (N:=N) (h:=h44) 0 (show (1:Int)≠0 by omega)
   have nn:binA E .neq 34 (.tmp 63) (.const .nilIface) (.iface 137 (.ptr (some (B,0)))) AV.nilIface=some (.bool true):=by rfl
   refine .inr ⟨e2,h47,by rw [hd,List.all_cons,hm];rfl,?_,q3,(((WQ.base p).trans c1).trans d1).trans d3⟩
   rw [f7_l1_succ]
   unfold f7_l1_b
   simp only [lt_nat',decide_eq_true h1,cond_true,P.ix h1,P.at h2,bindV_some,cast36,st,need_some,cc,e1,bind2_some,nn,cast_bool,e3]
end
end Vp
namespace Vp
section
variable {N:Nat} {h h' h0:Heap} {x:dens T35} {s:SL} {xs:List (dens T36)} {l:List Rc} {v:Vd} {A:Nat}
theorem mayV_eq (v:Vd):mayV v=(!decide (v.code<0)&&(!decide (44<v.code)&&(!decide (v.at_<0)&&(!decide (4194304<v.at_)&&(!decide (64<v.rs.length)&&v.rs.all mayR))))):=by
 unfold mayV inB
 have a:decide (0≤v.code) = !decide (v.code<0):=by rw [← decide_not];exact decide_eq_decide.2 (by omega)
 have b:decide (v.code≤44) = !decide (44<v.code):=by rw [← decide_not];exact decide_eq_decide.2 (by omega)
 have c:decide (0≤v.at_) = !decide (v.at_<0):=by rw [← decide_not];exact decide_eq_decide.2 (by omega)
 have d:decide (v.at_≤4194304) = !decide (4194304<v.at_):=by rw [← decide_not];exact decide_eq_decide.2 (by omega)
 have e:decide (v.rs.length≤64) = !decide (64<v.rs.length):=by rw [← decide_not];exact decide_eq_decide.2 (by omega)
 rw [a,b,c,d,e]
 simp only [Bool.and_assoc]
theorem encRs_len:∀ {l:List Rc},l.all mayR=true→shortN l→(encRs l).length≤60000 * l.length
 | [],_,_=>Nat.le_refl _
 | r::l,h,hs=>by
  simp only [List.all_cons,Bool.and_eq_true] at h
  have s1:=hs r List.mem_cons_self
  have h1:=putR_len h.1 s1.1 s1.2
  have h2:=encT_len (x:=putR r) (by omega)
  have h3:=encRs_len (l:=l) h.2 fun x hx=>hs x (List.mem_cons_of_mem _ hx)
  simp only [encRs,List.length_append,List.length_cons];omega
theorem lt64 (n:Nat):ltInt 64 (Int.ofNat n)=decide (64<n):=by
 rw [ltI];exact decide_eq_decide.2 (by show (64:Int)<(n:Int)↔_;omega)
theorem f7_eq (p:VC h x xs v) (hsn:shortN v.rs) (hN:3000≤N) :
  (∃ s h',mayV v=true∧f7 N x h=some ((s,AV.nilIface,()),h')∧Bt h' s (putV v)∧Chg [] h h')∨
  (∃ e h',mayV v=false∧f7 N x h=some ((⟨none,0,0,0⟩,e,()),h')∧FaultAt h' e 1 0∧Chg [] h h'):=by
 have c0:=chg_push h (.row (CTy.tos T35 x) .own)
 have o:=own35 h x
 have C:=cells35 o
 have p1:=p.chg c0
 have k0:=C.c0;have k1:=C.c1;have k2:=C.c2
 have nd:x.2.2.1.len=v.rs.length:=p.rs.len
 rw [p.code] at k0;rw [p.at_] at k1;rw [nd] at k2
 obtain ⟨e,hb,eb,qb,cb⟩:=f25_eq (N:=N) (h:=h.push (.row (CTy.tos T35 x) .own)) 0 (show (1:Int)≠0 by omega)
 have hm:=mayV_eq v
 have no:mayV v=false→∃ e h',mayV v=false∧(some ((⟨none,0,0,0⟩,e,()),h'):Option ((SL×AV×Unit)×Heap))=some ((⟨none,0,0,0⟩,e,()),h')∧FaultAt h' e 1 0∧Chg [] h h':=fun q=>⟨e,hb,q,rfl,qb,c0.trans cb⟩
 by_cases q1:v.code<0
 ·refine .inr ⟨e,hb,by rw [hm,decide_eq_true q1];rfl,?_,qb,c0.trans cb⟩
  unfold f7
  simp only [Nat.zero_add,k0,bindV_some,cast_int,ltI,decide_eq_true q1,cond_true,eb,bind2_some]
 by_cases q2:44<v.code
 ·refine .inr ⟨e,hb,by rw [hm,decide_eq_true q2];simp,?_,qb,c0.trans cb⟩
  unfold f7
  simp only [Nat.zero_add,k0,bindV_some,cast_int,ltI,decide_eq_false q1,decide_eq_true q2,cond_true,cond_false,eb,bind2_some]
 by_cases q3:v.at_<0
 ·refine .inr ⟨e,hb,by rw [hm,decide_eq_true q3];simp,?_,qb,c0.trans cb⟩
  unfold f7
  simp only [Nat.zero_add,k0,k1,bindV_some,cast_int,ltI,decide_eq_false q1,decide_eq_false q2,decide_eq_true q3,cond_true,cond_false,eb,bind2_some]
 by_cases q4:4194304<v.at_
 ·refine .inr ⟨e,hb,by rw [hm,decide_eq_true q4];simp,?_,qb,c0.trans cb⟩
  unfold f7
  simp only [Nat.zero_add,k0,k1,bindV_some,cast_int,ltI,decide_eq_false q1,decide_eq_false q2,decide_eq_false q3,decide_eq_true q4,cond_true,cond_false,eb,bind2_some]
 by_cases q5:64<v.rs.length
 ·refine .inr ⟨e,hb,by rw [hm,decide_eq_true q5];simp,?_,qb,c0.trans cb⟩
  unfold f7
  simp only [Nat.zero_add,k0,k1,k2,bindV_some,cast_int,cast_slice,lt64,decide_eq_true q5,cond_true]
  simp only [ltI,decide_eq_false q1,decide_eq_false q2,decide_eq_false q3,decide_eq_false q4,cond_false,eb,bind2_some]
 have hm2:mayV v=v.rs.all mayR:=by rw [hm];simp only [decide_eq_false q1,decide_eq_false q2,decide_eq_false q3,decide_eq_false q4,decide_eq_false q5,Bool.not_false,Bool.true_and]
 have hc:I64 v.code:=⟨by omega,by omega⟩
 have ha:I64 v.at_:=⟨by omega,by omega⟩
 obtain ⟨e23,w23⟩:=f26_eq (N:=N) (h:=h.push (.row (CTy.tos T35 x) .own))
 generalize hH1:h.push (.row (CTy.tos T35 x) .own)=h1 at *
 generalize hH23:h1.push (.row [SL.av ⟨none,0,0,0⟩] .own)=h23 at e23 w23
 have ow:∀ {H:Heap} {b:Bs},WQ h1 H h1.next b→CellsV H h.next x:=fun w=>cells35 (o.chg (WQ.base w) (by simp))
 obtain ⟨h25,e25,w25⟩:=f27_eq (N:=N) w23 (x:=ver_) (by simp [ver_]) (by simp) (by omega)
 rw [List.nil_append] at w25
 have l1:(encT ver_).length≤20:=by have:=encT_len (x:=ver_) (by simp [ver_]);simp only [ver_,List.length_cons,List.length_nil] at *;omega
 have k25:=(ow w25).c0
 rw [p.code] at k25
 obtain ⟨h28,e28,w28⟩:=f28_eq (N:=N) w25 hc.1 hc.2 (by omega) (by omega)
 have l3:=encI_len hc
 have k28:=(ow w28).c1
 rw [p.at_] at k28
 obtain ⟨h31,e31,w31⟩:=f28_eq (N:=N) w28 ha.1 ha.2 (by simp only [List.length_append];omega) (by omega)
 have l4:=encI_len ha
 have k31:=(ow w31).c2
 rw [nd] at k31
 obtain ⟨h35,e35,w35⟩:=f29_eq (N:=N) w31 (n:=v.rs.length) (by omega) (by simp only [List.length_append];omega) (by omega)
 have l5:=encU_len10 (n:=v.rs.length) (by omega)
 have k35:=(ow w35).c2
 rw [nd] at k35
 have hs:(⟨x.2.2.1.a,v.rs.length,x.2.2.1.cap,x.2.2.1.sz⟩:SL)=x.2.2.1:=by rw [← nd]
 have hw:wrapA .u64 (Int.ofNat v.rs.length)=(v.rs.length:Int):=wr64s (by omega)
 have hva:ver_=[85,86,69,82]:=rfl
 rcases f7_loop (N:=N) (v1:=some (h.next,0)) (v2:=⟨none,0,0,0⟩) p1.rs hsn hN (by omega) v.rs.length 0 N (by omega) (by omega) w35 (by simp only [List.length_append];omega) with ⟨h54,b1,b2,w54⟩ | ⟨e2,h54,b1,b2,b3,b4⟩
 ·rw [List.drop_zero] at b1 w54
  have l6:=encRs_len b1 hsn
  have k54:=(ow w54).c3
  obtain ⟨h58,e58,w58⟩:=f31_eq (N:=N) w54 p.root (by simp only [List.length_append];omega)
  have l7:=p.root.len
  obtain ⟨s',h60,e60,q60,c60⟩:=f32_eq (N:=N) w58 (by simp only [List.length_append];omega)
  refine .inl ⟨s',h60,by rw [hm2,b1],?_,by simpa only [putV,List.append_assoc] using q60,(c0.trans (WQ.base w58)).trans c60⟩
  rw [show ((0:Nat):Int)=0 from rfl] at b2
  rw [hva] at e25
  unfold f7
  rw [hH1]
  simp only [Nat.zero_add,k0,k1,k2,bindV_some,cast_int,cast_slice,lt64,decide_eq_false q5,cond_false]
  simp only [ltI,decide_eq_false q1,decide_eq_false q2,decide_eq_false q3,decide_eq_false q4,cond_false,e23,bind2_some,e25,k25,k28,k31,k35,bindV_some,cast_int,cast_slice,e28,e31,hw,e35,hs]
  rw [show Int.ofNat v.rs.length=(v.rs.length:Int) from rfl,b2]
  simp only [bind3_some,eqOut,Nat.beq_refl,cond_true,need_some,Nat.zero_add,k54,bindV_some,cast32,e58,bind2_some,e60]
 ·rw [List.drop_zero] at b1
  refine .inr ⟨e2,h54,by rw [hm2,b1],?_,b3,c0.trans b4⟩
  rw [show ((0:Nat):Int)=0 from rfl] at b2
  rw [hva] at e25
  unfold f7
  rw [hH1]
  simp only [Nat.zero_add,k0,k1,k2,bindV_some,cast_int,cast_slice,lt64,decide_eq_false q5,cond_false]
  simp only [ltI,decide_eq_false q1,decide_eq_false q2,decide_eq_false q3,decide_eq_false q4,cond_false,e23,bind2_some,e25,k25,k28,k31,k35,bindV_some,cast_int,cast_slice,e28,e31,hw,e35,hs]
  rw [show Int.ofNat v.rs.length=(v.rs.length:Int) from rfl,b2]
  simp only [bind3_some,eqOut,cond_false]
end
end Vp
namespace Vp
section
variable {N:Nat} {h h' h0:Heap} {x:dens T35} {xs:List (dens T36)} {l:List Rc} {v:Vd} {A:Nat}
theorem f8_loop {v2:Bs} (nd:x.2.2.1.len=l.length) (hsn:shortN l) (hN:3000≤N) (hl:l.length≤64):∀ (k i M:Nat) {h:Heap} {b:Bs},i+k=l.length→k<M→h.own A (CTy.tos T35 x)→Rs h x.2.2.1 xs l→b.length+60000 * k≤80000000→
  ∃ h',f8_l1 N M (some (A,0)) v2 0 b (i:Int) h=(bif (l.drop i).all mayR then some (.exit 0,(some (A,0),v2,0,b++encRs (l.drop i),()),h') else some (.ret,(some (A,0),[],1,(b++encRs ((l.drop i).takeWhile mayR)),()),h'))∧Chg [] h h':=by
 intro k
 induction k with
 | zero=>
  intro i M h b hi hM o P hb
  obtain ⟨M,rfl⟩:∃ M',M=M'+1:=⟨M-1,by omega⟩
  have k2:=(cells35 o).c2
  refine ⟨h,?_,Chg.refl _ _⟩
  rw [f8_l1_succ,List.drop_of_length_le (by omega)]
  unfold f8_l1_b
  simp only [need_some,Nat.zero_add,k2,bindV_some,cast_slice,nd,lt_nat,decide_eq_false (show ¬ i<l.length by omega),cond_false,List.all_nil,cond_true,encRs,List.append_nil]
 | succ k ih=>
  intro i M h b hi hM o P hb
  obtain ⟨M,rfl⟩:∃ M',M=M'+1:=⟨M-1,by omega⟩
  have h1:i<l.length:=by omega
  have h2:i<xs.length:=by rw [P.eqn];exact h1
  have k2:=(cells35 o).c2
  have hd:=List.drop_eq_getElem_cons h1
  have hsn1:=hsn l[i] (List.getElem_mem h1)
  have pr:=P.rcs i h2 h1
  have ix:=fun {β:Type} (K:Nat×Nat→Option β)=>P.ix h1 K
  rw [nd] at ix
  cases hm:mayR l[i] with
  | true=>
   obtain ⟨h35,e1,d1⟩:=f36_good (N:=N) pr hN hsn1.1 hm
   have hlen:=putR_len hm hsn1.1 hsn1.2
   have hlen2:=encT_len (x:=putR l[i]) (by omega)
   obtain ⟨h38,e2,d2⟩:=f33_eq (N:=N) (h:=h35) (x:=putR l[i]) (by omega) (by omega)
   obtain ⟨h',a1,a2⟩:=ih (i+1) M (h:=h38) (b:=b++encT (putR l[i])) (by omega) (by omega) ((o.chg d1 (by simp)).chg d2 (by simp)) ((P.chg d1).chg d2) (by rw [List.length_append];omega)
   refine ⟨h',?_,(d1.trans d2).trans a2⟩
   rw [f8_l1_succ]
   unfold f8_l1_b
   simp only [need_some,Nat.zero_add,k2,bindV_some,cast_slice,nd,lt_nat,decide_eq_true h1,cond_true,ix,P.at h2,cast36,e1,bind2_some,eqI,decide_true,Bool.not_true,cond_false,e2]
   rw [add_str (by omega)]
   simp only [bindV_some,cast_str,wrap_succ (show i≤4000000000 by omega)]
   rw [a1,hd,List.all_cons,hm,Bool.true_and,List.takeWhile_cons_of_pos hm]
   simp only [encRs,List.append_assoc]
  | false=>
   obtain ⟨h35,e1,d1⟩:=f36_bad (N:=N) pr hN hsn1.1 hm
   refine ⟨h35,?_,d1⟩
   rw [f8_l1_succ]
   unfold f8_l1_b
   simp only [need_some,Nat.zero_add,k2,bindV_some,cast_slice,nd,lt_nat,decide_eq_true h1,cond_true,ix,P.at h2,cast36,e1,bind2_some,eqI,decide_eq_false (show ¬ (1:Int)=0 by omega),Bool.not_false]
   rw [hd,List.all_cons,hm,Bool.false_and,cond_false,List.takeWhile_cons_of_neg (by simp [hm])]
   simp only [encRs,List.append_nil]
theorem f8_eq (p:VC h x xs v) (hsn:shortN v.rs) (hN:3000≤N):∃ h',f8 N x h=some ((bif mayV v then (putV v,0,()) else ([],1,())),h')∧Chg [] h h':=by
 have c0:=chg_push h (.row (CTy.tos T35 x) .own)
 have o:=own35 h x
 have C:=cells35 o
 have p1:=p.chg c0
 have k0:=C.c0;have k1:=C.c1;have k2:=C.c2
 have nd:x.2.2.1.len=v.rs.length:=p.rs.len
 rw [p.code] at k0;rw [p.at_] at k1;rw [nd] at k2
 have hm:=mayV_eq v
 by_cases q1:v.code<0
 ·refine ⟨_,?_,c0⟩
  rw [hm]
  unfold f8
  simp only [Nat.zero_add,k0,bindV_some,cast_int,ltI,decide_eq_true q1,cond_true]
  simp
 by_cases q2:44<v.code
 ·refine ⟨_,?_,c0⟩
  rw [hm]
  unfold f8
  simp only [Nat.zero_add,k0,bindV_some,cast_int,ltI,decide_eq_false q1,decide_eq_true q2,cond_true,cond_false]
  simp
 by_cases q3:v.at_<0
 ·refine ⟨_,?_,c0⟩
  rw [hm]
  unfold f8
  simp only [Nat.zero_add,k0,k1,bindV_some,cast_int,ltI,decide_eq_false q1,decide_eq_false q2,decide_eq_true q3,cond_true,cond_false]
  simp
 by_cases q4:4194304<v.at_
 ·refine ⟨_,?_,c0⟩
  rw [hm]
  unfold f8
  simp only [Nat.zero_add,k0,k1,bindV_some,cast_int,ltI,decide_eq_false q1,decide_eq_false q2,decide_eq_false q3,decide_eq_true q4,cond_true,cond_false]
  simp
 by_cases q5:64<v.rs.length
 ·refine ⟨_,?_,c0⟩
  rw [hm]
  unfold f8
  simp only [Nat.zero_add,k0,k1,k2,bindV_some,cast_int,cast_slice,lt64,decide_eq_true q5,cond_true]
  simp only [ltI,decide_eq_false q1,decide_eq_false q2,decide_eq_false q3,decide_eq_false q4,cond_false]
  simp
 have hm2:mayV v=v.rs.all mayR:=by rw [hm];simp only [decide_eq_false q1,decide_eq_false q2,decide_eq_false q3,decide_eq_false q4,decide_eq_false q5,Bool.not_false,Bool.true_and]
 have hc:I64 v.code:=⟨by omega,by omega⟩
 have ha:I64 v.at_:=⟨by omega,by omega⟩
 generalize hH1:h.push (.row (CTy.tos T35 x) .own)=h1 at *
 obtain ⟨h13,e13,d13⟩:=f33_eq (N:=N) (h:=h1) (x:=ver_) (by simp [ver_]) (by omega)
 have o13:=o.chg d13 (by simp)
 obtain ⟨h16,e16,d16⟩:=f34_len (N:=N) (h:=h13) hc (by omega)
 have o16:=o13.chg d16 (by simp)
 obtain ⟨h20,e20,d20⟩:=f34_len (N:=N) (h:=h16) ha (by omega)
 have o20:=o16.chg d20 (by simp)
 obtain ⟨h25,e25,d25⟩:=f35_eq (N:=N) (h:=h20) (n:=v.rs.length) (by omega) (by omega)
 have o25:=o20.chg d25 (by simp)
 have c25:=(((c0.trans d13).trans d16).trans d20).trans d25
 have l1:(encT ver_).length≤20:=by have:=encT_len (x:=ver_) (by simp [ver_]);simp only [ver_,List.length_cons,List.length_nil] at *;omega
 have l3:=encI_len hc
 have l4:=encI_len ha
 have l5:=encU_len10 (n:=v.rs.length) (by omega)
 obtain ⟨h43,e43,d43⟩:=f8_loop (N:=N) (v2:=[]) (x:=x) (xs:=xs) nd hsn hN (by omega) v.rs.length 0 N (h:=h25) (b:=((encT ver_++encI v.code)++encI v.at_)++encU v.rs.length) (by omega) (by omega) o25 (p.rs.chg c25) (by simp only [List.length_append];omega)
 have o43:=o25.chg d43 (by simp)
 rw [show ((0:Nat):Int)=0 from rfl,List.drop_zero] at e43
 have z13:=cells35 o13;have z16:=cells35 o16;have z20:=cells35 o20
 have a0:=z13.c0;have a1:=z13.c1;have a2:=z13.c2
 have b1:=z16.c1;have b2:=z16.c2;have g2:=z20.c2
 rw [p.code] at a0
 rw [p.at_] at a1 b1
 rw [nd] at a2 b2 g2
 have hw:wrapA .u64 (Int.ofNat v.rs.length)=(v.rs.length:Int):=wr64s (by omega)
 have hva:ver_=[85,86,69,82]:=rfl
 have head:∀ (y:Option ((Bs×Int×Unit)×Heap)),(bind3 (f8_l1 N N (some (h.next,0)) [] 0 (((encT ver_++encI v.code)++encI v.at_)++encU v.rs.length) 0 h25) fun o41 (j42:(Option (Nat×Nat)×List UInt8×Int×List UInt8×Unit)) h43=>
    (bif eqOut o41 (.exit 0) then
    (need j42.1 fun q44=>
    (bindV (.val (.agg T32)) (h43.cells (q44.1,q44.2+3) 32) fun (x45:dens T32)=>
    (bind2 (f37 N x45 h43) fun (x46:List UInt8) h47=>
    (bindV (.val (.one .str)) (binStr .add j42.2.2.2.1 x46) fun (x48:List UInt8)=>
    some ((x48,0,()),h47)))))
    else
    some ((j42.2.1,j42.2.2.1,()),h43)))=y→f8 N x h=y:=by
  intro y hy
  rw [← hy]
  rw [hva] at e13
  unfold f8
  rw [hH1]
  simp only [Nat.zero_add,k0,k1,k2,bindV_some,cast_int,cast_slice,lt64,decide_eq_false q5,cond_false]
  simp only [ltI,decide_eq_false q1,decide_eq_false q2,decide_eq_false q3,decide_eq_false q4,cond_false,e13,bind2_some,a0,a1,a2,b1,b2,g2,bindV_some,cast_int,cast_slice,e16,e20,hw,e25,same_refl,cond_true]
  rw [← hva]
  rw [add_str (by omega)]
  simp only [bindV_some,cast_str]
  rw [add_str (by simp only [List.length_append];omega)]
  simp only [bindV_some,cast_str]
  rw [add_str (by simp only [List.length_append];omega)]
  simp only [bindV_some,cast_str,guardB,cond_true]
 cases ht:v.rs.all mayR with
 | false=>
  refine ⟨h43,head _ ?_,c25.trans d43⟩
  rw [e43,ht,cond_false]
  simp only [bind3_some,eqOut,cond_false,hm2,ht]
 | true=>
  have l6:=encRs_len ht hsn
  have l7:=p.root.len
  obtain ⟨h47,e47,d47⟩:=f37_eq (N:=N) (h:=h43) p.root (by omega)
  refine ⟨h47,head _ ?_,(c25.trans d43).trans d47⟩
  rw [e43,ht,cond_true]
  simp only [bind3_some,eqOut,Nat.beq_refl,cond_true,need_some,Nat.zero_add,(cells35 o43).c3,bindV_some,cast32,e47,bind2_some]
  rw [add_str (by simp only [List.length_append];omega)]
  simp only [bindV_some,cast_str,hm2,ht,cond_true,putV,List.append_assoc]
end
end Vp
namespace Vp
def NN (e:AV):Prop:=∃ B,e=.iface 137 (.ptr (some (B,0)))
theorem FaultAt.nn {h:Heap} {v:AV} {c a:Int} (p:FaultAt h v c a):NN v:=by obtain ⟨A,h1,_⟩:=p;exact ⟨A,h1⟩
theorem and8 {c:Nat} (hc:c<256):bitsA .and .u8 (c:Int) 127=some (.int .u8 ((c % 128:Nat):Int)):=by
 have h0:∀ m<256,Nat.land m 127 % 256=m % 128:=by decide
 show some (AV.int .u8 ((Nat.land (c % 256) 127 % 256:Nat):Int))=_
 rw [h0 _ (Nat.mod_lt _ (by omega)),Nat.mod_eq_of_lt hc]
theorem shl7 (a:Nat) {i:Nat} (hi:i≤9):shiftA .shl .u64 (a:Int) ((7 * i:Nat):Int)=some (.int .u64 ((a * 2 ^ (7 * i) % 18446744073709551616:Nat):Int)):=by
 have e:shiftA .shl .u64 (a:Int) ((7 * i:Nat):Int)=some (.int .u64 (wrapA .u64 ((a:Int) * Int.ofNat (2 ^ min (7 * i) 64)))):=rfl
 rw [e,Nat.min_eq_left (by omega),show (a:Int) * Int.ofNat (2 ^ (7 * i))=((a * 2 ^ (7 * i):Nat):Int) from rfl,wr64]
theorem or64 (a b:Nat):bitsA .or .u64 (a:Int) (b:Int)=some (.int .u64 ((Nat.lor (a % 18446744073709551616) (b % 18446744073709551616) % 18446744073709551616:Nat):Int)):=rfl
def comb (c i acc:Nat):Nat:=Nat.lor (acc % 18446744073709551616) (c % 128 * 2 ^ (7 * i) % 18446744073709551616 % 18446744073709551616) % 18446744073709551616
theorem comb_lt (c i acc:Nat):comb c i acc<18446744073709551616:=Nat.mod_lt _ (by omega)
def rUgo (b:Bs) (at_:Nat):Nat→Nat→Nat→Option (Nat×Nat)
 | 0,_,_=>none
 | k+1,i,acc=>match b[at_+i]? with
  | none=>none
  | some c=>bif decide (i=9)&&decide (1<c.toNat) then none else bif decide (0<i)&&decide (c.toNat=0) then none else bif decide (c.toNat<128) then some (comb c.toNat i acc,at_+i+1) else rUgo b at_ k (i+1) (comb c.toNat i acc)
def rU (b:Bs) (at_:Nat):Option (Nat×Nat):=rUgo b at_ 10 0 0
theorem rUgo_at {b:Bs} {at_:Nat}:∀ {k i acc v a:Nat},rUgo b at_ k i acc=some (v,a)→a≤b.length∧at_<a∧v<18446744073709551616
 | 0,_,_,_,_,h=>by simp [rUgo] at h
 | k+1,i,acc,v,a,h=>by
  unfold rUgo at h
  cases hb:b[at_+i]? with
  | none=>simp [hb] at h
  | some c=>
   obtain ⟨hi,_⟩:=List.getElem?_eq_some_iff.1 hb
   simp only [hb] at h
   cases q1:(decide (i=9)&&decide (1<c.toNat)) with
   | true=>simp [q1] at h
   | false=>
    rw [q1,cond_false] at h
    cases q2:(decide (0<i)&&decide (c.toNat=0)) with
    | true=>simp [q2] at h
    | false=>
     rw [q2,cond_false] at h
     cases q3:decide (c.toNat<128) with
     | true=>
      rw [q3,cond_true] at h
      simp only [Option.some.injEq,Prod.mk.injEq] at h
      have:=comb_lt c.toNat i acc
      omega
     | false=>
      rw [q3,cond_false] at h
      exact rUgo_at h
theorem ofB_at:∀ (t:Bs) (i:Nat) (hi:i<t.length),(ofBytes t)[i]? = some (.int .u8 ((t[i]).toNat:Int))
 | _::_,0,_=>rfl
 | _::t,i+1,hi=>by simpa [ofBytes] using ofB_at t i (by simpa using hi)
def RQ (h:Heap) (A:Nat) (b:Bs) (at_:Nat):Prop:=∃ s,h.own A [SL.av s,.int .i64 (at_:Int)]∧Bt h s b∧(∀ B,s.blk=some B→B<A)∧at_≤b.length∧b.length≤10000000
section
variable {N:Nat} {h h':Heap} {A:Nat} {b:Bs} {at_:Nat}
theorem RQ.chg (p:RQ h A b at_) (c:Chg [] h h'):RQ h' A b at_:=by
 obtain ⟨s,p1,p2,p3,p4⟩:=p
 exact ⟨s,p1.chg c (by simp),p2.chg c (by simp),p3,p4⟩
theorem RQ.chgM {M:List Nat} (p:RQ h A b at_) (c:Chg M h h') (hM:∀ C∈M,A<C):RQ h' A b at_:=by
 obtain ⟨s,p1,p2,p3,p4⟩:=p
 exact ⟨s,p1.chg c (fun e=>Nat.lt_irrefl _ (hM A e)),p2.chg c (fun B hB hm=>by have:=p3 B hB;have:=hM B hm;omega),p3,p4⟩
theorem RQ.put {a':Nat} (p:RQ h A b at_) (ha:a'≤b.length):∃ h',h.store (A,1) [.int .i64 (a':Int)]=some h'∧RQ h' A b a'∧Chg [A] h h':=by
 obtain ⟨s,p1,p2,p3,p4,p5⟩:=p
 have st:h.store (A,1) [.int .i64 (a':Int)]=some (h.put A (.row [SL.av s,.int .i64 (a':Int)] .own)):=p1.store1 (j:=1) (by simp) _
 refine ⟨_,st,⟨s,own_put p1 _,p2.chg (p1.put _) (fun B hB hm=>?_),p3,ha,p5⟩,p1.put _⟩
 rw [List.mem_singleton.1 hm] at hB;exact Nat.lt_irrefl _ (p3 A hB)
theorem f110_eq (p:RQ h A b at_) {c:Int} (hc:c≠0):∃ v h',f110 N (some (A,0)) c h=some (v,h')∧NN v∧Chg [] h h':=by
 obtain ⟨s,p1,p2,p3,p4⟩:=p
 obtain ⟨v,h',e,q,c'⟩:=f25_eq (N:=N) (h:=h) (at_:Int) hc
 have k1:h.cell (A,1)=some (.int .i64 (at_:Int)):=p1.cell 1
 refine ⟨v,h',?_,q.nn,c'⟩
 unfold f110
 simp only [need_some,Nat.zero_add,k1,bindV_some,cast_int,e,bind2_some]
theorem f109_loop {v2:Int} {v3:AV} (hb:b.length≤10000000):∀ (k i M:Nat) {h:Heap} {acc:Nat},i+k=10→i≤9→k<M→RQ h A b at_→acc<18446744073709551616→
  (∃ v a h',rUgo b at_ k i acc=some (v,a)∧f109_l1 N M (some (A,0)) v2 v3 (acc:Int) (i:Int) h=some (.ret,((v:Int),AV.nilIface,()),h')∧RQ h' A b a∧Chg [A] h h')∨
  (∃ e h',rUgo b at_ k i acc=none∧f109_l1 N M (some (A,0)) v2 v3 (acc:Int) (i:Int) h=some (.ret,(0,e,()),h')∧NN e∧RQ h' A b at_∧Chg [] h h'):=by
 intro k
 induction k with
 | zero=>intro i M h acc hi h9;omega
 | succ k ih=>
  intro i M h acc hi h9 hM p hacc
  obtain ⟨M,rfl⟩:∃ M',M=M'+1:=⟨M-1,by omega⟩
  have p0:=p
  obtain ⟨s,p1,p2,p3,p4,p5⟩:=p
  have k0:h.cell (A,0)=some (.slice s.a s.len s.cap s.sz):=p1.cell 0
  have k1:h.cell (A,1)=some (.int .i64 (at_:Int)):=p1.cell 1
  have hlen:s.len=b.length:=p2.len
  have po:=p2.one
  have w1:wrapA .i64 ((at_:Int)+(i:Int))=((at_+i:Nat):Int):=by rw [wrapA_small (by omega) (by omega)];omega
  have bad:∀ c:Int,c≠0→∃ e h',f110 N (some (A,0)) c h=some (e,h')∧NN e∧RQ h' A b at_∧Chg [] h h':=fun c hc=>by
   obtain ⟨e,h',e1,e2,e3⟩:=f110_eq (N:=N) p0 hc
   exact ⟨e,h',e1,e2,RQ.chg p0 e3,e3⟩
  rw [f109_l1_succ]
  unfold f109_l1_b rUgo
  simp only [need_some,Nat.zero_add,k0,k1,bindV_some,cast_int,cast_slice,w1,hlen,leI]
  by_cases q0:b.length≤at_+i
  ·obtain ⟨e,h',e1,e2,e3,e4⟩:=bad 3 (by omega)
   refine .inr ⟨e,h',?_,?_,e2,e3,e4⟩
   ·rw [List.getElem?_eq_none (by omega)]
   ·rw [decide_eq_true (show Int.ofNat b.length≤((at_+i:Nat):Int) from by show (b.length:Int)≤_;omega)]
    simp only [cond_true,e1,bind2_some]
  ·have hlt:at_+i<b.length:=by omega
   have hlt2:at_+i<(ofBytes b).length:=by rw [ofB_len];exact hlt
   have hcell:h.cell (s.at (at_+i) 1)=some (.int .u8 ((b[at_+i]).toNat:Int)):=by
    rw [po.cell hlt2];congr 1
    have:=ofB_at b (at_+i) hlt
    rw [List.getElem?_eq_getElem hlt2] at this
    exact Option.some.inj this
   have hix:∀ {β:Type} (K:Nat×Nat→Option β),ixK s.a b.length ((at_+i:Nat):Int) 1 K=K (s.at (at_+i) 1):=fun K=>by rw [← hlen];exact ixK_at (po.2.2.isSome (by omega)) (by omega) K
   rw [List.getElem?_eq_getElem hlt,decide_eq_false (show ¬ Int.ofNat b.length≤((at_+i:Nat):Int) from fun q=>by have:(b.length:Int)≤((at_+i:Nat):Int):=q;omega)]
   generalize hc:b[at_+i]=c at *
   have hcb:c.toNat<256:=c.toNat_lt
   have w7:wrapA .i64 (7 * (i:Int))=((7 * i:Nat):Int):=by rw [wrapA_small (by omega) (by omega)];omega
   have w8:wrapA .u64 ((7 * i:Nat):Int)=((7 * i:Nat):Int):=wr64s (by omega)
   have w9:wrapA .u64 ((c.toNat % 128:Nat):Int)=((c.toNat % 128:Nat):Int):=wr64s (by omega)
   have s7:=shl7 (c.toNat % 128) (show i≤9 by omega)
   have o7:bitsA .or .u64 (acc:Int) ((c.toNat % 128 * 2 ^ (7 * i) % 18446744073709551616:Nat):Int)=some (.int .u64 ((comb c.toNat i acc:Nat):Int)):=or64 _ _
   have wi:wrapA .i64 ((i:Int)+1)=((i+1:Nat):Int):=by rw [wrapA_small (by omega) (by omega)];omega
   have wa:wrapA .i64 (((at_+i:Nat):Int)+1)=((at_+i+1:Nat):Int):=by rw [wrapA_small (by omega) (by omega)];omega
   obtain ⟨hf,ef,rf,cf⟩:=p0.put (a':=at_+i+1) (by omega)
   obtain ⟨e,hg,g1,g2,g3,g4⟩:=bad 4 (by omega)
   simp only [cond_false,hix,hcell,bindV_some,cast_int,eqI,ltI,and8 hcb,w7,w8,w9,s7,o7,wi,wa,w1,ef,need_some,g1,bind2_some]
   have ihk:=ih (i+1) M (h:=h) (acc:=comb c.toNat i acc)
   have d1:decide ((1:Int)<(c.toNat:Int))=decide (1<c.toNat):=decide_eq_decide.2 (by omega)
   have d2:decide ((c.toNat:Int)=0)=decide (c.toNat=0):=decide_eq_decide.2 (by omega)
   have d3:decide ((c.toNat:Int)<128)=decide (c.toNat<128):=decide_eq_decide.2 (by omega)
   have d4:decide ((0:Int)<(i:Int))=decide (0<i):=decide_eq_decide.2 (by omega)
   have d5:decide ((i:Int)=9)=decide (i=9):=decide_eq_decide.2 (by omega)
   rw [d1,d2,d3,d4,d5]
   by_cases i9:i=9
   ·rw [decide_eq_true i9,decide_eq_true (show 0<i by omega)]
    simp only [cond_true,Bool.true_and]
    by_cases c1:1<c.toNat
    ·rw [decide_eq_true c1]
     exact .inr ⟨e,hg,rfl,rfl,g2,g3,g4⟩
    ·rw [decide_eq_false c1]
     simp only [cond_false]
     by_cases c0:c.toNat=0
     ·rw [decide_eq_true c0]
      exact .inr ⟨e,hg,rfl,rfl,g2,g3,g4⟩
     ·rw [decide_eq_false c0,decide_eq_true (show c.toNat<128 by omega)]
      exact .inl ⟨_,_,hf,rfl,rfl,rf,cf⟩
   ·rw [decide_eq_false i9]
    simp only [cond_false,Bool.false_and]
    cases z0:decide (0<i)&&decide (c.toNat=0) with
    | true=>
     simp only [Bool.and_eq_true] at z0
     rw [z0.1,z0.2]
     exact .inr ⟨e,hg,rfl,rfl,g2,g3,g4⟩
    | false=>
     have hk:=ihk (by omega) (by omega) (by omega) p0 (comb_lt _ _ _)
     cases z1:decide (0<i) with
     | true=>
      rw [z1,Bool.true_and] at z0
      rw [z0]
      simp only [cond_true,cond_false]
      by_cases c2:c.toNat<128
      ·rw [decide_eq_true c2]
       exact .inl ⟨_,_,hf,rfl,rfl,rf,cf⟩
      ·rw [decide_eq_false c2]
       exact hk
     | false=>
      simp only [cond_true,cond_false]
      by_cases c2:c.toNat<128
      ·rw [decide_eq_true c2]
       exact .inl ⟨_,_,hf,rfl,rfl,rf,cf⟩
      ·rw [decide_eq_false c2]
       exact hk
end
end Vp
namespace Vp
theorem nilN (t:Nat):binA E .neq 34 (.tmp t) (.const .nilIface) AV.nilIface AV.nilIface=some (.bool false):=by rfl
theorem nnN (t:Nat) {e:AV} (h:NN e):binA E .neq 34 (.tmp t) (.const .nilIface) e AV.nilIface=some (.bool true):=by obtain ⟨B,rfl⟩:=h;rfl
theorem nilE (t:Nat):binA E .eql 34 (.tmp t) (.const .nilIface) AV.nilIface AV.nilIface=some (.bool true):=by rfl
theorem nnE (t:Nat) {e:AV} (h:NN e):binA E .eql 34 (.tmp t) (.const .nilIface) e AV.nilIface=some (.bool false):=by obtain ⟨B,rfl⟩:=h;rfl
theorem ofB_map:∀ t:Bs,ofBytes t=t.map fun c=>AV.int .u8 (c.toNat:Int)
 | []=>rfl
 | c::t=>by rw [ofBytes,ofB_map t];rfl
theorem boundA_n {i lim d:Nat} (h:i≤lim):boundA (some (.int .i64 (i:Int))) lim d=some i:=by
 have e:boundA (some (.int .i64 (i:Int))) lim d=bif Nat.ble i lim then some i else none:=rfl
 rw [e,Nat.ble_eq_true_of_le h];rfl
section
variable {N:Nat} {h h':Heap} {A:Nat} {b:Bs} {at_:Nat} {s:SL}
theorem Bt.slice (p:Bt h s b) {i j:Nat} (hij:i≤j) (hj:j≤b.length):∃ s',sliceA E h 28 (.slice s.a s.len s.cap s.sz) (some (.int .i64 (i:Int))) (some (.int .i64 (j:Int)))=some (.slice s'.a s'.len s'.cap s'.sz)∧One h s' (ofBytes ((b.take j).drop i)):=by
 rcases p with ⟨h1,h2,h3,rfl⟩ | ⟨B,cs,st,h1,h2,h3,h4,h5,h6,h7,h8,h9⟩
 ·have j0:j=0:=by simpa using hj
  subst j0
  have i0:i=0:=by omega
  subst i0
  refine ⟨⟨none,0,0,s.sz⟩,?_,by simpa [ofBytes] using (show One h ⟨none,0,0,s.sz⟩ [] from ⟨rfl,.inr rfl,by simp,fun _=>rfl,fun A off ha=>by cases ha⟩)⟩
  unfold sliceA
  rw [und28,h1,h2,h3]
  simp only [size5,boundA_n (Nat.le_refl 0)]
 ·refine ⟨⟨some (B,0+i * 1),j-i,s.cap-i,1⟩,?_,?_⟩
  ·unfold sliceA
   rw [und28,h1,h2]
   simp only [size5,boundA_n (show j≤s.cap by omega),boundA_n hij,Nat.beq_refl,cond_true]
  ·have hl:(ofBytes ((b.take j).drop i)).length=j-i:=by rw [ofB_len,List.length_drop,List.length_take];omega
   refine ⟨hl.symm,.inl rfl,by rw [hl];simp,fun e=>(by cases e),fun A off e=>?_⟩
   cases e
   refine ⟨h3,cs,by rw [h4];rcases h9 with rfl | rfl | ⟨rfl,_⟩ <;> rfl,?_⟩
   rw [hl,Nat.zero_add,Nat.mul_one,ofB_map,List.map_drop,List.map_take,← ofB_map,← h6,List.take_take,Nat.min_eq_left hj,List.drop_take]
theorem f65_eq {a0:SL} (x:One h a0 (ofBytes b)) (hb:b.length≤10000000):∃ A h',f65 N a0 h=some (some (A,0),h')∧RQ h' A b 0∧Chg [] h h'∧h.next≤A:=by
 have c0:=chg_push h (.row [] .own)
 have q0:Bt (h.push (.row [] .own)) ⟨some (h.next,0),0,0,1⟩ []:=.inr ⟨h.next,[],.own,rfl,rfl,Nat.lt_succ_self _,g_push_eq _ rfl,rfl,rfl,Nat.le_refl _,Nat.le_refl _,.inr (.inr ⟨rfl,rfl⟩)⟩
 obtain ⟨s',h2,e2,q1,c1,n1⟩:=app_sl (One.chgM x c0 (by simp)) q0 (by simpa using by omega)
 have c2:Chg [] h h2:=c0.step c1 fun B hB hl=>by simp [SL.blk] at hB;omega
 have c3:=chg_push h2 (.row [SL.av s',.int .i64 0] .own)
 refine ⟨h2.next,h2.push (.row [SL.av s',.int .i64 0] .own),?_,⟨s',own_push h2 _,q1.chg c3 (by simp),fun B e=>q1.lt B e,Nat.zero_le _,hb⟩,c2.trans c3,c2.next⟩
 unfold f65
 simp only [e2,SL.av,bindT_some,cast_slice]
theorem RQ.c1 (p:RQ h A b at_):h.cell (A,1)=some (.int .i64 (at_:Int)):=by obtain ⟨s,p1,_⟩:=p;exact p1.cell 1
theorem f108_eq (p:RQ h A b at_):f108 N (some (A,0)) h=some ((at_:Int),h):=by
 unfold f108
 simp only [Option.isNone_some,cond_false,need_some,Nat.zero_add,p.c1,bindV_some,cast_int]
theorem RQ.le (p:RQ h A b at_):at_≤b.length∧b.length≤10000000:=by obtain ⟨s,_,_,_,p4⟩:=p;exact p4
theorem f109_eq (p:RQ h A b at_) (hN:20≤N) :
  (∃ v a h',rU b at_=some (v,a)∧f109 N (some (A,0)) h=some (((v:Int),AV.nilIface,()),h')∧RQ h' A b a∧Chg [A] h h')∨
  (∃ e h',rU b at_=none∧f109 N (some (A,0)) h=some ((0,e,()),h')∧NN e∧RQ h' A b at_∧Chg [] h h'):=by
 rcases f109_loop (N:=N) (v2:=0) (v3:=AV.nilIface) p.le.2 10 0 N rfl (by omega) (by omega) p (show 0<18446744073709551616 by omega) with ⟨v,a,h',e1,e2,r⟩ | ⟨e,h',e1,e2,r⟩
 ·refine .inl ⟨v,a,h',e1,?_,r⟩
  rw [show ((0:Nat):Int)=0 from rfl] at e2
  unfold f109
  simp only [Option.isNone_some,cond_false,e2,bind3_some]
 ·refine .inr ⟨e,h',e1,?_,r⟩
  rw [show ((0:Nat):Int)=0 from rfl] at e2
  unfold f109
  simp only [Option.isNone_some,cond_false,e2,bind3_some]
def rT (b:Bs) (at_ lim:Nat):Option (Bs×Nat):=
 match rU b at_ with
 | none=>none
 | some (v,a)=>bif decide (lim<v) then none else bif decide (b.length-a<v) then none else some ((b.take (a+v)).drop a,a+v)
theorem ltN (a b:Nat):ltInt (a:Int) (b:Int)=decide (a<b):=by rw [ltI];exact decide_eq_decide.2 (by omega)
theorem f66_eq (p:RQ h A b at_) {lim:Nat} (hlim:lim≤10000000) (hN:20≤N) :
  (∃ t a h',rT b at_ lim=some (t,a)∧f66 N (some (A,0)) (lim:Int) h=some ((t,AV.nilIface,()),h')∧RQ h' A b a∧Chg [A] h h')∨
  (∃ e h',rT b at_ lim=none∧f66 N (some (A,0)) (lim:Int) h=some (([],e,()),h')∧NN e∧RQ h' A b at_∧Chg [A] h h'):=by
 have f0:=f108_eq (N:=N) p
 have L:=p.le
 rcases f109_eq (N:=N) p hN with ⟨v,a,h4,e1,e2,p4,c4⟩ | ⟨e,h4,e1,e2,e3,p4,c4⟩
 ·have L4:=p4.le
  have hv:=(rUgo_at e1).2.2
  obtain ⟨h9,s9,p9,c9⟩:=p4.put L.1
  have w1:wrapA .u64 (lim:Int)=(lim:Int):=wr64s (by omega)
  have bad:∀ c:Int,c≠0→∃ e h',f110 N (some (A,0)) c h9=some (e,h')∧NN e∧RQ h' A b at_∧Chg [A] h h':=fun c hc=>by
   obtain ⟨e,h',g1,g2,g3⟩:=f110_eq (N:=N) p9 hc
   exact ⟨e,h',g1,g2,p9.chg g3,(c4.trans c9).trans (g3.mono (by simp))⟩
  have d0:ltInt (lim:Int) 0=false:=by rw [ltI];exact decide_eq_false (by omega)
  by_cases q1:lim<v
  ·obtain ⟨e,h',g1,g2,g3,g4⟩:=bad 5 (by omega)
   refine .inr ⟨e,h',by simp only [rT,e1,decide_eq_true q1,cond_true],?_,g2,g3,g4⟩
   unfold f66
   simp only [f0,bind2_some,e2,nilN,bindV_some,cast_bool,cond_false,need_some,Nat.zero_add,p4.c1,cast_int,s9,d0,w1,ltN,decide_eq_true q1,cond_true,g1]
  ·obtain ⟨s,p1,p2,p3,p5⟩:=p9
   have k0:h9.cell (A,0)=some (.slice s.a s.len s.cap s.sz):=p1.cell 0
   have w2:wrapA .i64 (Int.ofNat b.length-(a:Int))=((b.length-a:Nat):Int):=by
    rw [show Int.ofNat b.length=(b.length:Int) from rfl,wrapA_small (by omega) (by omega)];omega
   have w3:wrapA .u64 ((b.length-a:Nat):Int)=((b.length-a:Nat):Int):=wr64s (by omega)
   by_cases q2:b.length-a<v
   ·obtain ⟨e,h',g1,g2,g3,g4⟩:=bad 3 (by omega)
    refine .inr ⟨e,h',by simp only [rT,e1,decide_eq_false q1,cond_false,decide_eq_true q2,cond_true],?_,g2,g3,g4⟩
    unfold f66
    simp only [f0,bind2_some,e2,nilN,bindV_some,cast_bool,cond_false,need_some,Nat.zero_add,p4.c1,cast_int,s9,d0,w1,ltN,decide_eq_false q1,k0,cast_slice,p2.len,w2,w3,decide_eq_true q2,cond_true,g1]
   ·have p9':RQ h9 A b at_:=⟨s,p1,p2,p3,p5⟩
    obtain ⟨h27,s27,p27,c27⟩:=p9'.put (a':=a+v) (by omega)
    have w4:wrapA .i64 (v:Int)=(v:Int):=wrapA_small (by omega) (by omega)
    have w5:wrapA .i64 ((a:Int)+(v:Int))=((a+v:Nat):Int):=by rw [wrapA_small (by omega) (by omega)];omega
    obtain ⟨s2,r1,r2,r3,r4⟩:=p27
    have k2:h27.cell (A,0)=some (.slice s2.a s2.len s2.cap s2.sz):=r1.cell 0
    have k3:h27.cell (A,1)=some (.int .i64 ((a+v:Nat):Int)):=r1.cell 1
    obtain ⟨s',u1,u2⟩:=r2.slice (i:=a) (j:=a+v) (by omega) (by omega)
    refine .inl ⟨(b.take (a+v)).drop a,a+v,h27,by simp only [rT,e1,decide_eq_false q1,cond_false,decide_eq_false q2],?_,⟨s2,r1,r2,r3,r4⟩,(c4.trans c9).trans c27⟩
    unfold f66
    simp only [f0,bind2_some,e2,nilN,bindV_some,cast_bool,cond_false,need_some,Nat.zero_add,p4.c1,cast_int,s9,d0,w1,ltN,decide_eq_false q1,k0,cast_slice,p2.len,w2,w3,decide_eq_false q2,w4,w5,s27,k2,k3,u1,conv_one u2,cast_str]
 ·refine .inr ⟨e,h4,by simp only [rT,e1],?_,e3,p4,c4.mono (by simp)⟩
  unfold f66
  simp only [f0,bind2_some,e2,nnN _ e3,bindV_some,cast_bool,cond_true]
end
end Vp
namespace Vp
def dec (v:Nat):Int:=if v % 2=1 then -((v / 2:Nat):Int)-1 else ((v / 2:Nat):Int)
def rI (b:Bs) (at_:Nat):Option (Int×Nat):=(rU b at_).map fun p=>(dec p.1,p.2)
def rN (b:Bs) (at_ lim:Nat):Option (Nat×Nat):=
 match rU b at_ with
 | none=>none
 | some (v,a)=>bif decide (lim<v) then none else some (v,a)
def rH (b:Bs) (at_:Nat):Option (Bs×Nat):=bif decide (b.length-at_<32) then none else some ((b.drop at_).take 32,at_+32)
theorem and1 (n:Nat) (h:n<18446744073709551616):bitsA .and .u64 (n:Int) 1=some (.int .u64 ((n % 2:Nat):Int)):=by
 show some (AV.int .u64 ((Nat.land (n % 18446744073709551616) 1 % 18446744073709551616:Nat):Int))=_
 rw [Nat.mod_eq_of_lt h,show Nat.land n 1=n &&& (2 ^ 1-1) from rfl,Nat.and_two_pow_sub_one_eq_mod,Nat.mod_eq_of_lt (by omega)]
theorem shr1 (n:Nat):shiftA .shr .u64 (n:Int) 1=some (.int .u64 ((n / 2:Nat):Int)):=by
 show some (AV.int .u64 ((n:Int).fdiv (Int.ofNat (2 ^ 1))))=_
 have e:(n:Int).fdiv (Int.ofNat (2 ^ 1))=((n / 2:Nat):Int):=by
  rw [show Int.ofNat (2 ^ 1)=(2:Int) from rfl,Int.fdiv_eq_ediv_of_nonneg _ (by omega)];rfl
 rw [e]
theorem ofB_dens:∀ l:Bs,∃ x:dens (List.replicate l.length (CTy.int .u8)),CTy.tos (List.replicate l.length (CTy.int .u8)) x=ofBytes l
 | []=>⟨(),rfl⟩
 | c::l=>by obtain ⟨x,hx⟩:=ofB_dens l;exact ⟨((c.toNat:Int),x),by rw [ofBytes,← hx];rfl⟩
theorem ofB_T32 {l:Bs} (h:l.length=32):∃ x:dens T32,HB x l:=by
 have:=ofB_dens l
 rw [h] at this
 exact this
section
variable {N:Nat} {h h':Heap} {A:Nat} {b:Bs} {at_:Nat} {s:SL}
theorem f67_eq (p:RQ h A b at_) (hN:20≤N) :
  (∃ v a h',rI b at_=some (v,a)∧f67 N (some (A,0)) h=some ((v,AV.nilIface,()),h')∧RQ h' A b a∧Chg [A] h h')∨
  (∃ e h',rI b at_=none∧f67 N (some (A,0)) h=some ((0,e,()),h')∧NN e∧RQ h' A b at_∧Chg [A] h h'):=by
 rcases f109_eq (N:=N) p hN with ⟨v,a,h4,e1,e2,p4,c4⟩ | ⟨e,h4,e1,e2,e3,p4,c4⟩
 ·have hv:=(rUgo_at e1).2.2
  refine .inl ⟨dec v,a,h4,by rw [rI,e1];rfl,?_,p4,c4⟩
  unfold f67
  simp only [e2,bind2_some,nilN,bindV_some,cast_bool,cond_false,and1 v hv,cast_int,eqI,shr1]
  have w1:wrapA .i64 ((v / 2:Nat):Int)=((v / 2:Nat):Int):=wrapA_small (by omega) (by omega)
  have w2:wrapA .i64 (0-((v / 2:Nat):Int)) = -((v / 2:Nat):Int):=by rw [wrapA_small (by omega) (by omega)];omega
  have w3:wrapA .i64 (-((v / 2:Nat):Int)-1) = -((v / 2:Nat):Int)-1:=wrapA_small (by omega) (by omega)
  rw [w1,w2,w3]
  unfold dec
  by_cases q:v % 2=1
  ·rw [decide_eq_true (show ((v % 2:Nat):Int)=1 by omega),if_pos q];rfl
  ·rw [decide_eq_false (show ¬ ((v % 2:Nat):Int)=1 by omega),if_neg q];rfl
 ·refine .inr ⟨e,h4,by rw [rI,e1];rfl,?_,e3,p4,c4.mono (by simp)⟩
  unfold f67
  simp only [e2,bind2_some,nnN _ e3,bindV_some,cast_bool,cond_true]
theorem f68_eq (p:RQ h A b at_) {lim:Nat} (hlim:lim≤10000000) (hN:20≤N) :
  (∃ v a h',rN b at_ lim=some (v,a)∧v≤lim∧f68 N (some (A,0)) (lim:Int) h=some (((v:Int),AV.nilIface,()),h')∧RQ h' A b a∧Chg [A] h h')∨
  (∃ e h',rN b at_ lim=none∧f68 N (some (A,0)) (lim:Int) h=some ((0,e,()),h')∧NN e∧RQ h' A b at_∧Chg [A] h h'):=by
 have f0:=f108_eq (N:=N) p
 have L:=p.le
 rcases f109_eq (N:=N) p hN with ⟨v,a,h4,e1,e2,p4,c4⟩ | ⟨e,h4,e1,e2,e3,p4,c4⟩
 ·have hv:=(rUgo_at e1).2.2
  have w1:wrapA .u64 (lim:Int)=(lim:Int):=wr64s (by omega)
  have d0:ltInt (lim:Int) 0=false:=by rw [ltI];exact decide_eq_false (by omega)
  by_cases q1:lim<v
  ·obtain ⟨h9,s9,p9,c9⟩:=p4.put L.1
   obtain ⟨e,h',g1,g2,g3⟩:=f110_eq (N:=N) p9 (show (2:Int)≠0 by omega)
   refine .inr ⟨e,h',by simp only [rN,e1,decide_eq_true q1,cond_true],?_,g2,p9.chg g3,(c4.trans c9).trans (g3.mono (by simp))⟩
   unfold f68
   simp only [f0,bind2_some,e2,nilN,bindV_some,cast_bool,cond_false,d0,w1,ltN,decide_eq_true q1,cond_true,need_some,Nat.zero_add,s9,g1]
  ·refine .inl ⟨v,a,h4,by simp only [rN,e1,decide_eq_false q1,cond_false],by omega,?_,p4,c4⟩
   have w4:wrapA .i64 (v:Int)=(v:Int):=wrapA_small (by omega) (by omega)
   unfold f68
   simp only [f0,bind2_some,e2,nilN,bindV_some,cast_bool,cond_false,d0,w1,ltN,decide_eq_false q1,w4]
 ·refine .inr ⟨e,h4,by simp only [rN,e1],?_,e3,p4,c4.mono (by simp)⟩
  unfold f68
  simp only [f0,bind2_some,e2,nnN _ e3,bindV_some,cast_bool,cond_true]
theorem Bt.from (p:Bt h s b) {i:Nat} (hi:i≤b.length):∃ s',sliceA E h 28 (.slice s.a s.len s.cap s.sz) (some (.int .i64 (i:Int))) none=some (.slice s'.a s'.len s'.cap s'.sz)∧One h s' (ofBytes (b.drop i)):=by
 obtain ⟨s',e1,e2⟩:=p.slice hi (Nat.le_refl _)
 refine ⟨s',?_,by rw [List.take_of_length_le (Nat.le_refl _)] at e2;exact e2⟩
 rw [← e1]
 have hn:boundA none s.cap b.length=some b.length:=rfl
 rcases p with ⟨h1,h2,h3,rfl⟩ | ⟨B,cs,st,h1,h2,h3,h4,h5,h6,h7,h8,h9⟩
 ·unfold sliceA
  rw [und28,h1,h2,h3]
  simp only [size5]
  rfl
 ·unfold sliceA
  rw [und28,h1,h2]
  simp only [size5,hn,boundA_n (show b.length≤s.cap by omega),h5]
theorem One.pre {s':SL} {vs:List AV} (p:One h s' vs) {n:Nat} (hn:n≤vs.length):One h ⟨s'.a,n,s'.cap,s'.sz⟩ (vs.take n):=by
 have hl:(vs.take n).length=n:=by rw [List.length_take];omega
 obtain ⟨p1,p2,p3,p4,p5⟩:=p
 refine ⟨hl.symm,?_,?_,fun e=>?_,fun A off e=>?_⟩
 ·rcases p2 with q | q
  ·exact .inl q
  ·exact .inr (show n=0 by omega)
 ·rw [hl]
  rcases p2 with q | q
  ·show n=n * s'.sz;rw [q];omega
  ·show n=n * s'.sz;rw [show n=0 by omega];omega
 ·have:=p4 e;show n=0;omega
 ·obtain ⟨g1,cs,g2,g3⟩:=p5 A off e
  refine ⟨g1,cs,g2,?_⟩
  rw [hl]
  have:=congrArg (List.take n) g3
  rw [List.take_take,Nat.min_eq_left hn] at this
  exact this
end
end Vp
namespace Vp
theorem copy32 {h:Heap} {A:Nat} {cs:List AV} {s:SL} {x:Bs} (o:h.own A cs) (hc:cs.length=32) (hs:One h s (ofBytes x)) (hx:32≤x.length):copyA E 28 (.slice (some (A,0)) 32 32 1) (.slice s.a s.len s.cap s.sz) h=some (.int .i64 32,h.put A (.row (ofBytes (x.take 32)) .own)):=by
 have p:=One.pre hs (n:=32) (by rw [ofB_len];exact hx)
 have hf:=p.first
 have hl:s.len=x.length:=by rw [hs.1,ofB_len]
 have hm:Nat.min s.len 32=32:=by rw [hl];exact Nat.min_eq_right hx
 have h3:(ofBytes x).take 32=ofBytes (x.take 32):=by rw [ofB_map,ofB_map,List.map_take]
 have hf2:firstCellsA h 1 32 (.slice s.a s.len s.cap s.sz)=some (ofBytes (x.take 32)):=by
  rw [← h3,← hf]
  cases s with
  | mk a len cap sz=>cases a <;> rfl
 have hw:h.rowW A=some (cs,.own):=by
  have:h.t.get A=some (.row cs .own):=o.1
  unfold Heap.rowW
  rw [this]
 have hl32:(ofBytes (x.take 32)).length=32:=by rw [ofB_len,List.length_take];omega
 have ho:over 0 cs (ofBytes (x.take 32))=some (ofBytes (x.take 32)):=by
  rw [over_many _ _ _ (by rw [hl32,hc];omega),hl32,List.drop_of_length_le (by omega)]
  simp
 unfold copyA
 rw [und28]
 simp only [size5,lenOfA,hm,hf2,hw,ho,ofB_single,Nat.beq_refl,Bool.true_and,cond_true]
 rfl
section
variable {N:Nat} {h h':Heap} {A:Nat} {b:Bs} {at_:Nat}
theorem push32 (h:Heap) (x:dens T32):(h.push (.row (CTy.tos T32 x) .own)).own h.next (CTy.tos T32 x):=own_push h _
theorem c32 {x:dens T32} {A:Nat} (o:h.own A (CTy.tos T32 x)):h.cells (A,0) 32=some (.agg (CTy.tos T32 x)):=by
 rw [o.cells (j:=0) (m:=32) (by show 0+32≤32;omega)];rfl
theorem f70_eq (p:RQ h A b at_) :
  (∃ x y a h',rH b at_=some (y,a)∧HB x y∧f70 N (some (A,0)) h=some ((x,AV.nilIface,()),h')∧RQ h' A b a∧Chg [A] h h')∨
  (∃ e h',rH b at_=none∧f70 N (some (A,0)) h=some ((z32,e,()),h')∧NN e∧RQ h' A b at_∧Chg [A] h h'):=by
 have L:=p.le
 have c1:=chg_push h (.row (CTy.tos T32 z32) .own)
 have o1:=push32 h z32
 have c2:=chg_push (h.push (.row (CTy.tos T32 z32) .own)) (.row (CTy.tos T32 z32) .own)
 have o2:=push32 (h.push (.row (CTy.tos T32 z32) .own)) z32
 have o12:=o1.chg c2 (by simp)
 have p2:=(p.chg c1).chg c2
 have c12:=c1.trans c2
 have hA:A<h.next:=by obtain ⟨s,q,_⟩:=p;exact q.2
 have hn1:(h.push (.row (CTy.tos T32 z32) .own)).next=h.next+1:=rfl
 generalize hH1:h.push (.row (CTy.tos T32 z32) .own)=h1 at *
 generalize hH2:h1.push (.row (CTy.tos T32 z32) .own)=h2 at *
 have p2':=p2
 obtain ⟨s,a1,a2,a3,a4⟩:=p
 have p:RQ h A b at_:=⟨s,a1,a2,a3,a4⟩
 have q1:=a1.chg c12 (by simp)
 have q2:=a2.chg c12 (by simp)
 have k0:h2.cell (A,0)=some (.slice s.a s.len s.cap s.sz):=q1.cell 0
 have k1:h2.cell (A,1)=some (.int .i64 (at_:Int)):=q1.cell 1
 have w2:wrapA .i64 (Int.ofNat b.length-(at_:Int))=((b.length-at_:Nat):Int):=by
  rw [show Int.ofNat b.length=(b.length:Int) from rfl,wrapA_small (by omega) (by omega)];omega
 have lt32:ltInt ((b.length-at_:Nat):Int) 32=decide (b.length-at_<32):=by rw [ltI];exact decide_eq_decide.2 (by omega)
 by_cases q:b.length-at_<32
 ·obtain ⟨e,h16,g1,g2,g3⟩:=f110_eq (N:=N) p2' (show (3:Int)≠0 by omega)
  have o1':=o12.chg g3 (by simp)
  have o2':=o2.chg g3 (by simp)
  have st:h16.store (h.next,0) (CTy.tos T32 z32)=some (h16.put h.next (.row (CTy.tos T32 z32) .own)):=o1'.store rfl
  have o3:=own_put o1' (CTy.tos T32 z32)
  have cp:=o1'.put (CTy.tos T32 z32)
  have cAll:Chg [] h (h16.put h.next (.row (CTy.tos T32 z32) .own)):=(c12.trans g3).step cp fun B hB hl=>by rw [List.mem_singleton.1 hB] at hl;omega
  refine .inr ⟨e,_,by rw [rH,decide_eq_true q];rfl,?_,g2,p.chg cAll,cAll.mono (by simp)⟩
  unfold f70
  rw [hH1]
  simp only [hH2,Option.isNone_some,cond_false,need_some,Nat.zero_add,k0,k1,bindV_some,cast_slice,cast_int,q2.len,w2,lt32,decide_eq_true q,cond_true,c32 o2,cast32,g1,bind2_some,st,c32 o2',same_refl,guardB,c32 o3]
 ·obtain ⟨s',u1,u2⟩:=q2.from (i:=at_) (by omega)
  have hl:((b.drop at_).take 32).length=32:=by rw [List.length_take,List.length_drop];omega
  obtain ⟨x,hx⟩:=ofB_T32 hl
  have cpy:=copy32 o2 (by rfl) u2 (by rw [List.length_drop];omega)
  rw [show ofBytes ((b.drop at_).take 32)=CTy.tos T32 x from hx.symm] at cpy
  have hr:h2.row h1.next=some (CTy.tos T32 z32):=by
   have:=o2.1
   unfold Heap.row
   rw [show h2.t.get h1.next=_ from this]
  have sl:=slice25 hr (by rfl)
  have o26:=own_put o2 (CTy.tos T32 x)
  have c26:=o2.put (CTy.tos T32 x)
  generalize hH26:h2.put h1.next (.row (CTy.tos T32 x) .own)=h26 at *
  have c26':Chg [] h h26:=c12.step c26 fun B hB hl=>by rw [List.mem_singleton.1 hB] at hl;omega
  have p26:=p.chg c26'
  have r1:=q1.chg c26 (by simp;omega)
  have s31:h26.store (A,1) [.int .i64 ((at_+32:Nat):Int)]=some (h26.put A (.row [SL.av s,.int .i64 ((at_+32:Nat):Int)] .own)):=r1.store1 (j:=1) (by simp) _
  have r2:=a2.chg c26' (by simp)
  have r31:=own_put r1 [SL.av s,.int .i64 ((at_+32:Nat):Int)]
  have c31:=r1.put [SL.av s,.int .i64 ((at_+32:Nat):Int)]
  have hsA:∀ B,s.blk=some B→B≠A:=fun B hB e=>by have:=a3 B hB;omega
  have b31:=r2.chg c31 (fun B hB hm=>hsA B hB (List.mem_singleton.1 hm))
  generalize hH31:h26.put A (.row [SL.av s,.int .i64 ((at_+32:Nat):Int)] .own)=h31 at *
  have o31:=o26.chg c31 (by simp;omega)
  have oh:=(o12.chg c26 (by simp;omega)).chg c31 (by simp;omega)
  have st:h31.store (h.next,0) (CTy.tos T32 x)=some (h31.put h.next (.row (CTy.tos T32 x) .own)):=oh.store rfl
  have o33:=own_put oh (CTy.tos T32 x)
  have c33:=oh.put (CTy.tos T32 x)
  have w3:wrapA .i64 ((at_:Int)+32)=((at_+32:Nat):Int):=by rw [wrapA_small (by omega) (by omega)];omega
  have cA:Chg [A] h h31:=(c26'.mono (by simp)).trans c31
  refine .inl ⟨x,_,at_+32,h31.put h.next (.row (CTy.tos T32 x) .own),by rw [rH,decide_eq_false q];rfl,hx,?_,?_,cA.step c33 fun B hB hl=>by rw [List.mem_singleton.1 hB] at hl;omega⟩
  ·unfold f70
   rw [hH1]
   simp only [hH2,Option.isNone_some,cond_false,need_some,Nat.zero_add,k0,k1,bindV_some,cast_slice,cast_int,q2.len,w2,lt32,decide_eq_false q,sl]
   rw [← q2.len,u1]
   simp only [bindV_some,cast_slice,cpy,bindT_some,cast_int,p26.c1,w3,s31,need_some,c32 o31,cast32,st,c32 o33]
  ·refine ⟨s,r31.chg c33 (by simp;omega),b31.chg c33 (fun B hB hm=>?_),a3,by omega,a4.2⟩
   have:=a2.lt B hB
   rw [List.mem_singleton.1 hm] at this
   omega
end
end Vp
namespace Vp
def DR (h:Heap) (A:Nat) (b:Bs) (a e p:Int):Prop:=h.own A [.str b,.int .i64 a,.int .i64 e,.int .i64 p]
def DQ (h:Heap) (A:Nat) (b:Bs):Option Nat→Prop
 | some a=>(∃ p,DR h A b a 0 p)∧a≤b.length∧b.length≤10000000
 | none=>∃ a e p,DR h A b a e p∧e≠0
def vU (b:Bs):Option Nat→Nat
 | none=>0
 | some a=>match rU b a with
  | some (v,_)=>v
  | none=>0
def sU (b:Bs):Option Nat→Option Nat
 | none=>none
 | some a=>match rU b a with
  | some (_,a')=>some a'
  | none=>none
theorem vU_lt (b:Bs) (o:Option Nat):vU b o<18446744073709551616:=by
 unfold vU
 cases o with
 | none=>simp
 | some a=>
  simp only
  cases hq:rU b a with
  | none=>simp
  | some w=>exact (rUgo_at (v:=w.1) (a:=w.2) hq).2.2
section
variable {N:Nat} {h h':Heap} {A:Nat} {b:Bs} {at_:Nat} {o:Option Nat}
theorem DQ.chg (p:DQ h A b o) {M:List Nat} (c:Chg M h h') (hM:A ∉ M):DQ h' A b o:=by
 cases o with
 | some a=>obtain ⟨⟨q,p1⟩,p2⟩:=p;exact ⟨⟨q,Heap.own.chg p1 c hM⟩,p2⟩
 | none=>obtain ⟨a,e,q,p1,p2⟩:=p;exact ⟨a,e,q,Heap.own.chg p1 c hM,p2⟩
theorem f113_loop {v4 v5 v6:Int} (hb:b.length≤10000000) (ha:at_≤b.length):∀ (k i M:Nat) {acc:Nat},i+k=10→i≤9→k<M→acc<18446744073709551616→
  (∃ v a,rUgo b at_ k i acc=some (v,a)∧f113_l1 N M b (at_:Int) v4 v5 v6 (acc:Int) (i:Int) h=some (.ret,((v:Int),(a:Int),0,()),h))∨
  (∃ c:Int,rUgo b at_ k i acc=none∧c≠0∧f113_l1 N M b (at_:Int) v4 v5 v6 (acc:Int) (i:Int) h=some (.ret,(0,0,c,()),h)):=by
 intro k
 induction k with
 | zero=>intro i M acc hi h9;omega
 | succ k ih=>
  intro i M acc hi h9 hM hacc
  obtain ⟨M,rfl⟩:∃ M',M=M'+1:=⟨M-1,by omega⟩
  have w1:wrapA .i64 ((at_:Int)+(i:Int))=((at_+i:Nat):Int):=by rw [wrapA_small (by omega) (by omega)];omega
  rw [f113_l1_succ]
  unfold f113_l1_b rUgo
  simp only [w1,leI]
  by_cases q0:b.length≤at_+i
  ·refine .inr ⟨3,?_,by omega,?_⟩
   ·rw [List.getElem?_eq_none (by omega)]
   ·rw [decide_eq_true (show Int.ofNat b.length≤((at_+i:Nat):Int) from by show (b.length:Int)≤_;omega)]
    simp only [cond_true]
  ·have hlt:at_+i<b.length:=by omega
   rw [List.getElem?_eq_getElem hlt,decide_eq_false (show ¬ Int.ofNat b.length≤((at_+i:Nat):Int) from fun q=>by have:(b.length:Int)≤((at_+i:Nat):Int):=q;omega)]
   simp only [cond_false,strK_at hlt]
   generalize hc:b[at_+i]=c at *
   have hcb:c.toNat<256:=c.toNat_lt
   have w7:wrapA .i64 (7 * (i:Int))=((7 * i:Nat):Int):=by rw [wrapA_small (by omega) (by omega)];omega
   have w8:wrapA .u64 ((7 * i:Nat):Int)=((7 * i:Nat):Int):=wr64s (by omega)
   have w9:wrapA .u64 ((c.toNat % 128:Nat):Int)=((c.toNat % 128:Nat):Int):=wr64s (by omega)
   have s7:=shl7 (c.toNat % 128) (show i≤9 by omega)
   have o7:bitsA .or .u64 (acc:Int) ((c.toNat % 128 * 2 ^ (7 * i) % 18446744073709551616:Nat):Int)=some (.int .u64 ((comb c.toNat i acc:Nat):Int)):=or64 _ _
   have wi:wrapA .i64 ((i:Int)+1)=((i+1:Nat):Int):=by rw [wrapA_small (by omega) (by omega)];omega
   have wa:wrapA .i64 (((at_+i:Nat):Int)+1)=((at_+i+1:Nat):Int):=by rw [wrapA_small (by omega) (by omega)];omega
   simp only [cond_false,bindV_some,cast_int,eqI,ltI,and8 hcb,w7,w8,w9,s7,o7,wi,wa]
   have ihk:=ih (i+1) M (acc:=comb c.toNat i acc)
   have d1:decide ((1:Int)<(c.toNat:Int))=decide (1<c.toNat):=decide_eq_decide.2 (by omega)
   have d2:decide ((c.toNat:Int)=0)=decide (c.toNat=0):=decide_eq_decide.2 (by omega)
   have d3:decide ((c.toNat:Int)<128)=decide (c.toNat<128):=decide_eq_decide.2 (by omega)
   have d4:decide ((0:Int)<(i:Int))=decide (0<i):=decide_eq_decide.2 (by omega)
   have d5:decide ((i:Int)=9)=decide (i=9):=decide_eq_decide.2 (by omega)
   rw [d1,d2,d3,d4,d5]
   by_cases c0:c.toNat=0
   ·rw [decide_eq_true c0,decide_eq_true (show c.toNat<128 by omega),decide_eq_false (show ¬ 1<c.toNat by omega)]
    simp only [cond_true,cond_false,Bool.and_true,Bool.and_false]
    cases decide (i=9) <;> cases decide (0<i) <;> first | exact .inr ⟨4,rfl,by omega,rfl⟩ | exact .inl ⟨_,_,rfl,rfl⟩
   ·rw [decide_eq_false c0]
    simp only [Bool.and_false,cond_false]
    by_cases i9:i=9
    ·rw [decide_eq_true i9]
     simp only [cond_true,Bool.true_and]
     by_cases c1:1<c.toNat
     ·rw [decide_eq_true c1]
      exact .inr ⟨4,rfl,by omega,rfl⟩
     ·rw [decide_eq_false c1,decide_eq_true (show c.toNat<128 by omega)]
      exact .inl ⟨_,_,rfl,rfl⟩
    ·rw [decide_eq_false i9]
     simp only [cond_false,Bool.false_and]
     by_cases c2:c.toNat<128
     ·rw [decide_eq_true c2]
      exact .inl ⟨_,_,rfl,rfl⟩
     ·rw [decide_eq_false c2]
      exact ihk (by omega) (by omega) (by omega) (comb_lt _ _ _)
theorem f72_eq {a e p c q:Int} (x:DR h A b a e p) (he:e=0):∃ h',f72 N (some (A,0)) c q h=some ((),h')∧DR h' A b a c q∧Chg [A] h h':=by
 subst he
 have s1:h.store (A,2) [.int .i64 c]=some (h.put A (.row [.str b,.int .i64 a,.int .i64 c,.int .i64 p] .own)):=Heap.own.store1 x (j:=2) (by simp) _
 have o1:=own_put x [.str b,.int .i64 a,.int .i64 c,.int .i64 p]
 have s2:=o1.store1 (j:=3) (by simp) (.int .i64 q)
 have k2:h.cell (A,2)=some (.int .i64 0):=Heap.own.cell x 2
 refine ⟨_,?_,own_put o1 [.str b,.int .i64 a,.int .i64 c,.int .i64 q],(Heap.own.put x _).trans (o1.put _)⟩
 unfold f72
 simp only [need_some,Nat.zero_add,k2,bindV_some,cast_int,eqI,decide_true,cond_true,s1,s2]
 rfl
theorem f71_eq (p:DQ h A b o) (hN:20≤N):∃ h',f71 N (some (A,0)) h=some ((vU b o:Int),h')∧DQ h' A b (sU b o)∧Chg [A] h h':=by
 cases o with
 | none=>
  obtain ⟨a,e,q,p1,p2⟩:=p
  have k2:h.cell (A,2)=some (.int .i64 e):=Heap.own.cell p1 2
  refine ⟨h,?_,⟨a,e,q,p1,p2⟩,Chg.refl _ _⟩
  unfold f71
  simp only [need_some,Nat.zero_add,k2,bindV_some,cast_int,eqI,decide_eq_false p2,Bool.not_false,cond_true]
  rfl
 | some a=>
  obtain ⟨⟨q,p1⟩,p2,p3⟩:=p
  have k0:h.cell (A,0)=some (.str b):=Heap.own.cell p1 0
  have k1:h.cell (A,1)=some (.int .i64 (a:Int)):=Heap.own.cell p1 1
  have k2:h.cell (A,2)=some (.int .i64 0):=Heap.own.cell p1 2
  rcases f113_loop (N:=N) (h:=h) (v4:=0) (v5:=0) (v6:=0) p3 p2 10 0 N (acc:=0) rfl (by omega) (by omega) (by omega) with ⟨v,a',e1,e2⟩ | ⟨c,e1,hc,e2⟩
  ·have hv:=rUgo_at e1
   rw [show ((0:Nat):Int)=0 from rfl] at e2
   have s1:h.store (A,1) [.int .i64 (a':Int)]=some (h.put A (.row [.str b,.int .i64 (a':Int),.int .i64 0,.int .i64 q] .own)):=Heap.own.store1 p1 (j:=1) (by simp) _
   have hr:rU b a=some (v,a'):=e1
   refine ⟨_,?_,?_,Heap.own.put p1 [.str b,.int .i64 (a':Int),.int .i64 0,.int .i64 q]⟩
   ·unfold f71 f113
    simp only [need_some,Nat.zero_add,k0,k1,k2,bindV_some,cast_int,cast_str,eqI,decide_true,Bool.not_true,cond_false,e2,bind3_some,bind2_some,s1,vU,hr]
   ·simp only [sU,hr]
    exact ⟨⟨q,own_put p1 _⟩,hv.1,p3⟩
  ·rw [show ((0:Nat):Int)=0 from rfl] at e2
   have hr:rU b a=none:=e1
   obtain ⟨h',g1,g2,g3⟩:=f72_eq (N:=N) (c:=c) (q:=(a:Int)) p1 rfl
   refine ⟨h',?_,?_,g3⟩
   ·unfold f71 f113
    simp only [need_some,Nat.zero_add,k0,k1,k2,bindV_some,cast_int,cast_str,eqI,decide_true,decide_eq_false hc,Bool.not_true,Bool.not_false,cond_true,cond_false,e2,bind3_some,bind2_some,g1,vU,hr]
    rfl
   ·simp only [sU,hr]
    exact ⟨_,_,_,g2,hc⟩
theorem quo2 (n:Nat) (h:n<18446744073709551616):binInt .quo .u64 (n:Int) 2=some (.int .u64 ((n / 2:Nat):Int)):=by
 have e:(n:Int).tdiv 2=((n / 2:Nat):Int):=by rw [Int.tdiv_eq_ediv_of_nonneg (by omega)];rfl
 show some (AV.int .u64 (wrapA .u64 ((n:Int).tdiv 2)))=_
 rw [e,wr64s (by omega)]
theorem f42_eq (p:DQ h A b o) (hN:20≤N):∃ h',f42 N (some (A,0)) h=some (dec (vU b o),h')∧DQ h' A b (sU b o)∧Chg [A] h h':=by
 obtain ⟨h',e1,e2,e3⟩:=f71_eq (N:=N) p hN
 have hlt:=vU_lt b o
 refine ⟨h',?_,e2,e3⟩
 generalize vU b o=v at *
 unfold f42
 simp only [e1,bind2_some,and1 v hlt,bindV_some,cast_int,eqI,quo2 v hlt]
 have w1:wrapA .i64 ((v / 2:Nat):Int)=((v / 2:Nat):Int):=wrapA_small (by omega) (by omega)
 have w2:wrapA .i64 (-1-((v / 2:Nat):Int)) = -((v / 2:Nat):Int)-1:=by rw [wrapA_small (by omega) (by omega)];omega
 rw [w1,w2]
 unfold dec
 by_cases q:v % 2=1
 ·rw [decide_eq_true (show ((v % 2:Nat):Int)=1 by omega),if_pos q];rfl
 ·rw [decide_eq_false (show ¬ ((v % 2:Nat):Int)=1 by omega),if_neg q];rfl
def vN (b:Bs) (lim:Nat) (o:Option Nat):Nat:=match sU b o with
 | none=>0
 | some _=>bif decide (lim<vU b o) then 0 else vU b o
def sN (b:Bs) (lim:Nat) (o:Option Nat):Option Nat:=match sU b o with
 | none=>none
 | some a=>bif decide (lim<vU b o) then none else some a
theorem vU_none (hs:sU b o=none):vU b o=0:=by
 unfold sU at hs;unfold vU
 cases o with
 | none=>rfl
 | some a=>
  simp only at hs ⊢
  cases hq:rU b a with
  | none=>rfl
  | some w=>rw [hq] at hs;cases hs
theorem DQ.back {a e p c:Int} {a0:Int} (x:DR h A b a e p) (he:e=0) (hc:c≠0):∃ h1 h',h.store (A,1) [.int .i64 a0]=some h1∧f72 N (some (A,0)) c a0 h1=some ((),h')∧DQ h' A b none∧Chg [A] h h':=by
 have s1:h.store (A,1) [.int .i64 a0]=some (h.put A (.row [.str b,.int .i64 a0,.int .i64 e,.int .i64 p] .own)):=Heap.own.store1 x (j:=1) (by simp) _
 have o1:DR (h.put A (.row [.str b,.int .i64 a0,.int .i64 e,.int .i64 p] .own)) A b a0 e p:=own_put x _
 obtain ⟨h',g1,g2,g3⟩:=f72_eq (N:=N) (c:=c) (q:=a0) o1 he
 exact ⟨_,h',s1,g1,⟨_,_,_,g2,hc⟩,(Heap.own.put x _).trans g3⟩
theorem DQ.c1 (p:DQ h A b o):∃ a:Int,h.cell (A,1)=some (.int .i64 a):=by
 cases o with
 | none=>obtain ⟨a,e,q,p1,_⟩:=p;exact ⟨a,Heap.own.cell p1 1⟩
 | some a=>obtain ⟨⟨q,p1⟩,_⟩:=p;exact ⟨a,Heap.own.cell p1 1⟩
theorem f43_eq (p:DQ h A b o) {lim:Nat} (hlim:lim≤10000000) (hN:20≤N):∃ h',f43 N (some (A,0)) (lim:Int) h=some ((vN b lim o:Int),h')∧DQ h' A b (sN b lim o)∧Chg [A] h h':=by
 obtain ⟨h4,e1,e2,e3⟩:=f71_eq (N:=N) p hN
 obtain ⟨a0,k1⟩:=p.c1
 have hlt:=vU_lt b o
 have w1:wrapA .u64 (lim:Int)=(lim:Int):=wr64s (by omega)
 have d0:ltInt (lim:Int) 0=false:=by rw [ltI];exact decide_eq_false (by omega)
 cases hs:sU b o with
 | none=>
  rw [hs] at e2
  obtain ⟨a,e,q,p1,p2⟩:=e2
  have k2:h4.cell (A,2)=some (.int .i64 e):=Heap.own.cell p1 2
  refine ⟨h4,?_,by rw [sN,hs];exact ⟨a,e,q,p1,p2⟩,e3⟩
  have hv:=vU_none hs
  unfold f43
  simp only [need_some,Nat.zero_add,k1,bindV_some,cast_int,e1,bind2_some,k2,eqI,decide_eq_false p2,cond_false,vN,hs,hv]
  rfl
 | some a=>
  rw [hs] at e2
  obtain ⟨⟨q,p1⟩,p2,p3⟩:=e2
  have k2:h4.cell (A,2)=some (.int .i64 0):=Heap.own.cell p1 2
  by_cases c:lim<vU b o
  ·obtain ⟨h1,h',g1,g2,g3,g4⟩:=DQ.back (N:=N) (a0:=a0) (c:=2) p1 rfl (by omega)
   refine ⟨h',?_,by rw [sN,hs,decide_eq_true c];exact g3,e3.trans g4⟩
   unfold f43
   simp only [need_some,Nat.zero_add,k1,bindV_some,cast_int,e1,bind2_some,k2,eqI,decide_true,cond_true,d0,cond_false,w1,ltN,decide_eq_true c,g1,g2,vN,hs]
   rfl
  ·refine ⟨h4,?_,by rw [sN,hs,decide_eq_false c];exact ⟨⟨q,p1⟩,p2,p3⟩,e3⟩
   have w2:wrapA .i64 (vU b o:Int)=(vU b o:Int):=wrapA_small (by omega) (by omega)
   unfold f43
   simp only [need_some,Nat.zero_add,k1,bindV_some,cast_int,e1,bind2_some,k2,eqI,decide_true,cond_true,d0,cond_false,w1,ltN,decide_eq_false c,vN,hs,w2]
end
end Vp
namespace Vp
def vT (b:Bs) (lim:Nat) (o:Option Nat):Bs:=match sU b o with
 | none=>[]
 | some a=>bif decide (lim<vU b o) then [] else bif decide (b.length-a<vU b o) then [] else (b.take (a+vU b o)).drop a
def sT (b:Bs) (lim:Nat) (o:Option Nat):Option Nat:=match sU b o with
 | none=>none
 | some a=>bif decide (lim<vU b o) then none else bif decide (b.length-a<vU b o) then none else some (a+vU b o)
def vH (b:Bs):Option Nat→Bs
 | none=>zerosH
 | some a=>bif decide (b.length-a<32) then zerosH else (b.drop a).take 32
def sH (b:Bs):Option Nat→Option Nat
 | none=>none
 | some a=>bif decide (b.length-a<32) then none else some (a+32)
theorem slice9 {h:Heap} {s:Bs} {i j:Nat} (h1:i≤j) (h2:j≤s.length):sliceA E h 9 (.str s) (some (.int .i64 (i:Int))) (some (.int .i64 (j:Int)))=some (.str ((s.take j).drop i)):=by
 unfold sliceA
 rw [show E.und 9=some .string from und9]
 simp only [boundA_n h1,boundA_n h2]
section
variable {N:Nat} {h h':Heap} {A:Nat} {b:Bs} {at_:Nat} {o:Option Nat}
theorem f41_eq (p:DQ h A b o) {lim:Nat} (hlim:lim≤10000000) (hN:20≤N):∃ h',f41 N (some (A,0)) (lim:Int) h=some (vT b lim o,h')∧DQ h' A b (sT b lim o)∧Chg [A] h h':=by
 obtain ⟨h4,e1,e2,e3⟩:=f71_eq (N:=N) p hN
 obtain ⟨a0,k1⟩:=p.c1
 have hlt:=vU_lt b o
 have w1:wrapA .u64 (lim:Int)=(lim:Int):=wr64s (by omega)
 have d0:ltInt (lim:Int) 0=false:=by rw [ltI];exact decide_eq_false (by omega)
 cases hs:sU b o with
 | none=>
  rw [hs] at e2
  obtain ⟨a,e,q,p1,p2⟩:=e2
  have k2:h4.cell (A,2)=some (.int .i64 e):=Heap.own.cell p1 2
  refine ⟨h4,?_,by rw [sT,hs];exact ⟨a,e,q,p1,p2⟩,e3⟩
  unfold f41
  simp only [need_some,Nat.zero_add,k1,bindV_some,cast_int,e1,bind2_some,k2,eqI,decide_eq_false p2,Bool.not_false,cond_true,vT,hs]
 | some a=>
  rw [hs] at e2
  obtain ⟨⟨q,p1⟩,p2,p3⟩:=e2
  have k0:h4.cell (A,0)=some (.str b):=Heap.own.cell p1 0
  have k3:h4.cell (A,1)=some (.int .i64 (a:Int)):=Heap.own.cell p1 1
  have k2:h4.cell (A,2)=some (.int .i64 0):=Heap.own.cell p1 2
  by_cases c:lim<vU b o
  ·obtain ⟨h1,h',g1,g2,g3,g4⟩:=DQ.back (N:=N) (a0:=a0) (c:=5) p1 rfl (by omega)
   refine ⟨h',?_,by rw [sT,hs,decide_eq_true c];exact g3,e3.trans g4⟩
   unfold f41
   simp only [need_some,Nat.zero_add,k1,bindV_some,cast_int,e1,bind2_some,k2,eqI,decide_true,Bool.not_true,cond_true,d0,cond_false,w1,ltN,decide_eq_true c,g1,g2,vT,hs]
  ·have w2:wrapA .i64 (Int.ofNat b.length-(a:Int))=((b.length-a:Nat):Int):=by
    rw [show Int.ofNat b.length=(b.length:Int) from rfl,wrapA_small (by omega) (by omega)];omega
   have w3:wrapA .u64 ((b.length-a:Nat):Int)=((b.length-a:Nat):Int):=wr64s (by omega)
   by_cases c2:b.length-a<vU b o
   ·obtain ⟨h1,h',g1,g2,g3,g4⟩:=DQ.back (N:=N) (a0:=a0) (c:=3) p1 rfl (by omega)
    refine ⟨h',?_,by simp only [sT,hs,decide_eq_false c,decide_eq_true c2,cond_false,cond_true];exact g3,e3.trans g4⟩
    unfold f41
    simp only [need_some,Nat.zero_add,k1,bindV_some,cast_int,e1,bind2_some,k2,k0,k3,cast_str,w2,w3,eqI,decide_true,Bool.not_true,cond_true,d0,cond_false,w1,ltN,decide_eq_false c,decide_eq_true c2,g1,g2,vT,hs]
   ·have w4:wrapA .i64 (vU b o:Int)=(vU b o:Int):=wrapA_small (by omega) (by omega)
    have w5:wrapA .i64 ((a:Int)+(vU b o:Int))=((a+vU b o:Nat):Int):=by rw [wrapA_small (by omega) (by omega)];omega
    have s1:h4.store (A,1) [.int .i64 ((a+vU b o:Nat):Int)]=some (h4.put A (.row [.str b,.int .i64 ((a+vU b o:Nat):Int),.int .i64 0,.int .i64 q] .own)):=Heap.own.store1 p1 (j:=1) (by simp) _
    refine ⟨_,?_,by simp only [sT,hs,decide_eq_false c,decide_eq_false c2,cond_false];exact ⟨⟨q,own_put p1 _⟩,by omega,p3⟩,e3.trans (Heap.own.put p1 [.str b,.int .i64 ((a+vU b o:Nat):Int),.int .i64 0,.int .i64 q])⟩
    unfold f41
    simp only [need_some,Nat.zero_add,k1,bindV_some,cast_int,e1,bind2_some,k2,k0,k3,cast_str,w2,w3,w4,w5,eqI,decide_true,Bool.not_true,d0,cond_false,w1,ltN,decide_eq_false c,decide_eq_false c2,vT,hs,slice9 (show a≤a+vU b o by omega) (show a+vU b o≤b.length by omega),s1]
theorem f45_loop {v2:Option (Nat×Nat)} {B a:Nat} {q:Int} (ha:a+32≤b.length) (hb:b.length≤10000000) (hAB:A≠B):∀ (k i M:Nat) {h:Heap} {cs:List AV},i+k=32→k<M→DR h A b (a:Int) 0 q→h.own B cs→cs.length=32→cs.take i=ofBytes ((b.drop a).take i)→
  ∃ h',f45_l1 N M (some (A,0)) v2 (some (B,0)) (i:Int) h=some (.exit 0,(some (A,0),v2,some (B,0),()),h')∧DR h' A b (a:Int) 0 q∧h'.own B (ofBytes ((b.drop a).take 32))∧Chg [B] h h':=by
 intro k
 induction k with
 | zero=>
  intro i M h cs hi hM p o hl ht
  obtain ⟨M,rfl⟩:∃ M',M=M'+1:=⟨M-1,by omega⟩
  have i32:i=32:=by omega
  subst i32
  rw [List.take_of_length_le (by omega)] at ht
  refine ⟨h,?_,p,by rw [← ht];exact o,Chg.refl _ _⟩
  rw [f45_l1_succ]
  unfold f45_l1_b
  simp only [ltI,decide_eq_false (show ¬ ((32:Nat):Int)<32 by omega),cond_false]
 | succ k ih=>
  intro i M h cs hi hM p o hl ht
  obtain ⟨M,rfl⟩:∃ M',M=M'+1:=⟨M-1,by omega⟩
  have k0:h.cell (A,0)=some (.str b):=Heap.own.cell p 0
  have k1:h.cell (A,1)=some (.int .i64 (a:Int)):=Heap.own.cell p 1
  have w1:wrapA .i64 ((a:Int)+(i:Int))=((a+i:Nat):Int):=by rw [wrapA_small (by omega) (by omega)];omega
  have hlt:a+i<b.length:=by omega
  have st:h.store (B,0+i * 1) [.int .u8 ((b[a+i]).toNat:Int)]=some (h.put B (.row (cs.set i (.int .u8 ((b[a+i]).toNat:Int))) .own)):=by
   rw [Nat.zero_add,Nat.mul_one];exact o.store1 (by omega) _
  have o1:=own_put o (cs.set i (.int .u8 ((b[a+i]).toNat:Int)))
  have c1:=o.put (cs.set i (.int .u8 ((b[a+i]).toNat:Int)))
  have wi:wrapA .i64 ((i:Int)+1)=((i+1:Nat):Int):=by rw [wrapA_small (by omega) (by omega)];omega
  have ht2:(cs.set i (.int .u8 ((b[a+i]).toNat:Int))).take (i+1)=ofBytes ((b.drop a).take (i+1)):=by
   have e1:(b.drop a).take (i+1)=(b.drop a).take i++[b[a+i]]:=by
    rw [List.take_succ_eq_append_getElem (by rw [List.length_drop];omega),List.getElem_drop]
   rw [e1,ofB_app,← ht,List.take_succ_eq_append_getElem (by rw [List.length_set];omega),List.take_set_of_le (Nat.le_refl _),List.getElem_set_self]
   rfl
  obtain ⟨h',e,g1,g2,g3⟩:=ih (i+1) M (by omega) (by omega) (Heap.own.chg p c1 (by simpa using hAB)) o1 (by rw [List.length_set];exact hl) ht2
  refine ⟨h',?_,g1,g2,c1.trans g3⟩
  rw [f45_l1_succ]
  unfold f45_l1_b
  simp only [ltI,decide_eq_true (show (i:Int)<32 by omega),cond_true,need_some,Nat.zero_add,k0,k1,bindV_some,cast_str,cast_int,w1,strK_at hlt]
  rw [show (i:Int)=Int.ofNat i from rfl,ixK_of _ _ _ _ _ (show i<32 by omega),st]
  simp only [need_some]
  rw [show Int.ofNat i=(i:Int) from rfl,wi]
  exact e
end
end Vp
namespace Vp
section
variable {N:Nat} {h h':Heap} {A:Nat} {b:Bs} {at_:Nat} {o:Option Nat}
theorem DQ.lt (p:DQ h A b o):A<h.next:=by
 cases o with
 | none=>obtain ⟨a,e,q,p1,_⟩:=p;exact p1.2
 | some a=>obtain ⟨⟨q,p1⟩,_⟩:=p;exact p1.2
theorem f45_eq (p:DQ h A b o) (hN:40≤N):∃ x h',HB x (vH b o)∧f45 N (some (A,0)) h=some (x,h')∧DQ h' A b (sH b o)∧Chg [A] h h':=by
 have hA:=p.lt
 have c1:=chg_push h (.row (CTy.tos T32 z32) .own)
 have o1:=push32 h z32
 have c2:=chg_push (h.push (.row (CTy.tos T32 z32) .own)) (.row (CTy.tos T32 z32) .own)
 have o2:=push32 (h.push (.row (CTy.tos T32 z32) .own)) z32
 have o12:=o1.chg c2 (by simp)
 have c12:=c1.trans c2
 have p2:=p.chg c12 (by simp)
 have hn1:(h.push (.row (CTy.tos T32 z32) .own)).next=h.next+1:=rfl
 generalize hH1:h.push (.row (CTy.tos T32 z32) .own)=h1 at *
 generalize hH2:h1.push (.row (CTy.tos T32 z32) .own)=h2 at *
 have fin:∀ {H:Heap} {x:dens T32},H.own h.next (CTy.tos T32 z32)→Chg [A] h H→DQ H A b (sH b o)→∃ H',H.store (h.next,0) (CTy.tos T32 x)=some H'∧H'.cells (h.next,0) 32=some (.agg (CTy.tos T32 x))∧DQ H' A b (sH b o)∧Chg [A] h H':=fun {H x} oh ch dq=>
  ⟨_,oh.store rfl,c32 (own_put oh (CTy.tos T32 x)),dq.chg (oh.put _) (by simp;omega),ch.step (oh.put _) fun B hB hl=>by rw [List.mem_singleton.1 hB] at hl;omega⟩
 cases o with
 | none=>
  obtain ⟨H',s1,s2,s3,s4⟩:=fin (x:=z32) o12 (c12.mono (by simp)) p2
  obtain ⟨a,e,q,p1,hp⟩:=p2
  have k2:h2.cell (A,2)=some (.int .i64 e):=Heap.own.cell p1 2
  refine ⟨z32,H',HB.zero,?_,s3,s4⟩
  unfold f45
  rw [hH1]
  simp only [hH2,need_some,Nat.zero_add,k2,bindV_some,cast_int,eqI,decide_eq_false hp,Bool.not_false,cond_true,c32 o2,cast32,s1,s2]
 | some a=>
  obtain ⟨⟨q,p1⟩,hp,hp2⟩:=p2
  have k0:h2.cell (A,0)=some (.str b):=Heap.own.cell p1 0
  have k1:h2.cell (A,1)=some (.int .i64 (a:Int)):=Heap.own.cell p1 1
  have k2:h2.cell (A,2)=some (.int .i64 0):=Heap.own.cell p1 2
  have w2:wrapA .i64 (Int.ofNat b.length-(a:Int))=((b.length-a:Nat):Int):=by
   rw [show Int.ofNat b.length=(b.length:Int) from rfl,wrapA_small (by omega) (by omega)];omega
  have lt32:ltInt ((b.length-a:Nat):Int) 32=decide (b.length-a<32):=by rw [ltI];exact decide_eq_decide.2 (by omega)
  by_cases c:b.length-a<32
  ·obtain ⟨h18,g1,g2,g3⟩:=f72_eq (N:=N) (c:=3) (q:=(a:Int)) p1 rfl
   have d18:DQ h18 A b (sH b (some a)):=by simp only [sH,decide_eq_true c,cond_true];exact ⟨_,_,_,g2,by omega⟩
   obtain ⟨H',s1,s2,s3,s4⟩:=fin (x:=z32) (o12.chg g3 (by simp;omega)) ((c12.mono (by simp)).trans g3) d18
   refine ⟨z32,H',by simp only [vH,decide_eq_true c,cond_true];exact HB.zero,?_,s3,s4⟩
   unfold f45
   rw [hH1]
   simp only [hH2,need_some,Nat.zero_add,k0,k1,k2,bindV_some,cast_int,cast_str,eqI,decide_true,Bool.not_true,cond_false,w2,lt32,decide_eq_true c,cond_true,g1,bind2_some,c32 (o2.chg g3 (by simp;omega)),cast32,s1,s2]
  ·have hl:((b.drop a).take 32).length=32:=by rw [List.length_take,List.length_drop];omega
   obtain ⟨x,hx⟩:=ofB_T32 hl
   obtain ⟨h34,e1,e2,e3,e4⟩:=f45_loop (N:=N) (v2:=some (h.next,0)) (B:=h1.next) (show a+32≤b.length by omega) hp2 (by omega) 32 0 N (by omega) (by omega) p1 o2 rfl rfl
   rw [show ofBytes ((b.drop a).take 32)=CTy.tos T32 x from hx.symm] at e3
   have s39:h34.store (A,1) [.int .i64 ((a+32:Nat):Int)]=some (h34.put A (.row [.str b,.int .i64 ((a+32:Nat):Int),.int .i64 0,.int .i64 q] .own)):=Heap.own.store1 e2 (j:=1) (by simp) _
   have c39:=Heap.own.put e2 [.str b,.int .i64 ((a+32:Nat):Int),.int .i64 0,.int .i64 q]
   have o39:=e3.chg c39 (by simp;omega)
   have d39:DQ (h34.put A (.row [.str b,.int .i64 ((a+32:Nat):Int),.int .i64 0,.int .i64 q] .own)) A b (sH b (some a)):=by
    simp only [sH,decide_eq_false c,cond_false];exact ⟨⟨q,own_put e2 _⟩,by omega,hp2⟩
   have k34:h34.cell (A,1)=some (.int .i64 (a:Int)):=Heap.own.cell e2 1
   have w3:wrapA .i64 ((a:Int)+32)=((a+32:Nat):Int):=by rw [wrapA_small (by omega) (by omega)];omega
   have c34:Chg [] h h34:=c12.step e4 fun B hB hl=>by rw [List.mem_singleton.1 hB] at hl;omega
   obtain ⟨H',s1,s2,s3,s4⟩:=fin (x:=x) ((o12.chg e4 (by simp;omega)).chg c39 (by simp;omega)) ((c34.mono (by simp)).trans c39) d39
   refine ⟨x,H',by simp only [vH,decide_eq_false c,cond_false];exact hx,?_,s3,s4⟩
   rw [show ((0:Nat):Int)=0 from rfl] at e1
   unfold f45
   rw [hH1]
   simp only [hH2,need_some,Nat.zero_add,k0,k1,k2,bindV_some,cast_int,cast_str,eqI,decide_true,Bool.not_true,cond_false,w2,lt32,decide_eq_false c,e1,bind3_some,k34,w3,s39,c32 o39,cast32,s1,s2]
end
end Vp
namespace Vp
def Fl (h:Heap) (s:SL) (n:Nat) (vs:List AV):Prop:=
 (s.a=none∧s.len=0∧s.cap=0∧vs=[])∨
 ∃ A cs st,s.a=some (A,0)∧s.sz=n∧A<h.next∧h.g A=some (.row cs st)∧vs.length=s.len * n∧cs.take vs.length=vs∧s.len≤s.cap∧(st=.grown∨(st=.own∧s.cap * n=cs.length))
section
variable {h h':Heap} {s:SL} {n:Nat} {vs:List AV} {M:List Nat}
theorem Fl.nil (h:Heap) (z n:Nat):Fl h ⟨none,0,0,z⟩ n []:=.inl ⟨rfl,rfl,rfl,rfl⟩
theorem Fl.lt (p:Fl h s n vs):∀ B,s.blk=some B→B<h.next:=by
 intro B hB
 rcases p with ⟨h1,_⟩ | ⟨A,cs,st,h1,_,h3,_⟩
 ·simp [SL.blk,h1] at hB
 ·simp [SL.blk,h1] at hB;omega
theorem Fl.chg (p:Fl h s n vs) (c:Chg M h h') (hM:∀ B,s.blk=some B→B ∉ M):Fl h' s n vs:=by
 rcases p with h1 | ⟨A,cs,st,h1,h2,h3,h4,h5⟩
 ·exact .inl h1
 ·exact .inr ⟨A,cs,st,h1,h2,Nat.lt_of_lt_of_le h3 c.next,(c.g A h3 (hM A (by simp [SL.blk,h1]))).trans h4,h5⟩
theorem Fl.sees (p:Fl h s n vs):(s.sz=n∨s.len=0)∧vs.length=s.len * n∧(s.sz=n→Sees h s vs)∧(s.len=0→vs=[]):=by
 rcases p with ⟨h1,h2,h3,rfl⟩ | ⟨A,cs,st,h1,h2,h3,h4,h5,h6,h7,h8⟩
 ·exact ⟨.inr h2,by simp [h2],fun _=>⟨by simp [h2],fun _=>h2,fun A off e=>by rw [h1] at e;cases e⟩,fun _=>rfl⟩
 ·refine ⟨.inl h2,h5,fun _=>⟨by rw [h5,h2],fun e=>(by rw [h1] at e;cases e),fun A' off e=>?_⟩,fun e=>?_⟩
  ·rw [h1] at e;cases e
   refine ⟨h3,cs,by rw [h4];rcases h8 with rfl | ⟨rfl,_⟩ <;> rfl,by rw [List.drop_zero];exact h6⟩
  ·rw [e,Nat.zero_mul] at h5;exact List.length_eq_zero_iff.1 h5
theorem append_fl {E:Env} {st e:TypeId} {W:Nat} (ha:AppN E st e n W) (hn:0<n) (x:Fl h s n vs) {cs:List AV} (hall:cs.all AV.single=true) (hcs:cs.length=n) (hl:(s.len+1) * W≤1073741824) :
  ∃ s' h',appendA E st st (.slice s.a s.len s.cap s.sz) (.slice (some (h.next,0)) 1 1 n) (h.push (.row cs .own))=some (.slice s'.a s'.len s'.cap s'.sz,h')∧Fl h' s' n (vs++cs)∧s'.len=s.len+1∧Chg (s.blk.toList) h h'∧(∀ A,s'.blk=some A→s.blk=some A∨h.next≤A):=by
 obtain ⟨hu,⟨i,hi,hi1,hi2⟩,⟨z,hz,hz1⟩⟩:=ha
 have hr:(h.push (.row cs .own)).read h.next 0 (1 * n)=some cs:=by
  have:(h.push (.row cs .own)).row h.next=some cs:=(Heap.is_push h cs).row
  simp only [Heap.read,this,List.drop_zero,Nat.one_mul]
  rw [takeN_of _ _ (by omega),List.take_of_length_le (by omega)]
 have hroom:Nat.ble ((s.len+1) * (i.bytes+i.size+1)) roomA=true:=by
  have h1:(s.len+1) * (i.bytes+i.size+1)≤(s.len+1) * W:=Nat.mul_le_mul (by omega) (by omega)
  simp only [roomA,Nat.ble_eq];omega
 have hsz:(Nat.beq s.sz i.size||s.a.isNone)=true:=by
  rcases x with ⟨h1,_⟩ | ⟨A,cs',st',h1,h2,_⟩
  ·simp [h1]
  ·simp [hi1,h2]
 have key:∀ K,growA (h.push (.row cs .own)) s.a s.len s.cap n 1 cs=K→appendA E st st (.slice s.a s.len s.cap s.sz) (.slice (some (h.next,0)) 1 1 n) (h.push (.row cs .own))=K:=by
  intro K hK
  have hz2:Nat.beq z.cells.length i.size=true:=by rw [hz1,hi1];exact Nat.beq_refl _
  have hnl:Nat.beq cs.length (1 * i.size)=true:=by rw [hi1,hcs,Nat.one_mul];exact Nat.beq_refl _
  simp only [appendA,hu,isIntD,isStrD,cond_false,hi,hz,lenOfA,firstCellsA]
  rw [hi1] at hroom hsz hz2 hnl ⊢
  simp only [hr,show Nat.beq 1 0=false from rfl,cond_false,hroom,hsz,hz2,hnl,hall,Bool.and_self,cond_true]
  exact hK
 rcases x with ⟨h1,h2,h3,rfl⟩ | ⟨A,bs,st',h1,h2,h4,h5,hvl,h7,h9,h10⟩
 ·have c0:Chg [] h ((h.push (.row cs .own)).push (.row cs .grown)):=((Chg.refl [] h).push _).push _
  exact ⟨⟨some (h.next+1,0),1,1,n⟩,(h.push (.row cs .own)).push (.row cs .grown),key _ (by simp only [growA,h1,h2];rfl),.inr ⟨h.next+1,cs,.grown,rfl,rfl,by simp,g_push_eq _ rfl,by simp [hcs],by simp,Nat.le_refl _,.inl rfl⟩,by rw [h2],c0.mono (by simp),fun A hA=>.inr (by simp [SL.blk] at hA;omega)⟩
 ·have hbl:s.blk=some A:=by simp [SL.blk,h1]
  have hcl:vs.length≤bs.length:=by
   have:(bs.take vs.length).length=vs.length:=by rw [h7]
   rw [List.length_take] at this;omega
  have hg:(h.push (.row cs .own)).t.get A=some (.row bs st'):=by
   have:=g_push_ne (h:=h) (A:=A) (.row cs .own) (by omega)
   unfold Heap.g at this h5
   rw [this,h5]
  have htk:takeN (s.len * n) bs=some vs:=by rw [takeN_of _ _ (by omega),← hvl,h7]
  have hvc:(vs++cs).length=(s.len+1) * n:=by rw [List.length_append,hvl,hcs,Nat.succ_mul]
  have fresh:∀ H:Heap,H.next=h.next+1→Chg [A] h H→Fl (H.push (.row (vs++cs) .grown)) ⟨some (h.next+1,0),s.len+1,s.len+1,n⟩ n (vs++cs):=by
   intro H hH cH
   exact .inr ⟨h.next+1,vs++cs,.grown,rfl,rfl,by simp [hH],g_push_eq _ hH.symm,hvc,List.take_of_length_le (Nat.le_refl _),Nat.le_refl _,.inl rfl⟩
  rcases h10 with rfl | ⟨rfl,h10⟩
  ·have cH:Chg [A] h ((h.push (.row cs .own)).put A (.row bs .dead)):=((Chg.refl [A] h).push _).put (.inl (by simp)) _
   refine ⟨⟨some (h.next+1,0),s.len+1,s.len+1,n⟩,((h.push (.row cs .own)).put A (.row bs .dead)).push (.row (vs++cs) .grown),key _ ?_,fresh _ rfl cH,rfl,(cH.push _).mono (by simp [hbl]),fun C hC=>.inr (by simp [SL.blk] at hC;omega)⟩
   simp only [growA,h1,hg,List.drop_zero,htk];rfl
  ·by_cases hc:s.len+1≤s.cap
   ·have hb1:Nat.ble (s.len+1) s.cap=true:=by simpa using hc
    have hroom2:s.len * n+cs.length≤bs.length:=by
     rw [hcs,← Nat.succ_mul,← h10];exact Nat.mul_le_mul_right _ hc
    have hov:=over_at bs cs (s.len * n) hroom2
    have cH:Chg [A] h ((h.push (.row cs .own)).put A (.row (bs.take (s.len * n)++cs++bs.drop (s.len * n+cs.length)) .own)):=((Chg.refl [A] h).push _).put (.inl (by simp)) _
    have e1:bs.take (s.len * n)=vs:=by rw [← hvl,h7]
    refine ⟨⟨some (A,0),s.len+1,s.cap,n⟩,_,key _ ?_,.inr ⟨A,_,.own,rfl,rfl,by simp;omega,g_put_eq _ rfl,hvc,?_,hc,.inr ⟨rfl,?_⟩⟩,rfl,cH.mono (by simp [hbl]),fun C hC=>.inl (by simp [SL.blk] at hC;rw [hbl,hC])⟩
    ·simp only [growA,h1,hg,List.drop_zero,htk,hb1,cond_true,Nat.zero_add,hov]
    ·rw [e1,List.take_append_of_le_length (Nat.le_refl _),List.take_of_length_le (Nat.le_refl _)]
    ·show s.cap * n=_
     rw [h10];simp only [List.length_append,List.length_take,List.length_drop];omega
   ·have hb1:Nat.ble (s.len+1) s.cap=false:=by
     cases hx:Nat.ble (s.len+1) s.cap with
     | false=>rfl
     | true=>exact absurd (by simpa using hx) hc
    have cH:Chg [A] h (h.push (.row cs .own)):=(Chg.refl [A] h).push _
    refine ⟨⟨some (h.next+1,0),s.len+1,s.len+1,n⟩,(h.push (.row cs .own)).push (.row (vs++cs) .grown),key _ ?_,fresh _ rfl cH,rfl,(cH.push _).mono (by simp [hbl]),fun C hC=>.inr (by simp [SL.blk] at hC;omega)⟩
    simp only [growA,h1,hg,List.drop_zero,htk,hb1,cond_false];rfl
end
theorem appDs:AppN E 30 145 4 50:=AppN.of (by kernel_rfl)
theorem appRs:AppN E 23 32 36 200:=AppN.of (by kernel_rfl)
end Vp
namespace Vp
def rDs (b:Bs):Nat→Option Nat→List Dg×Option Nat
 | 0,o=>([],o)
 | _+1,none=>([],none)
 | k+1,some a=>
  let o1:=sU b (some a)
  let o2:=sU b o1
  let o3:=sU b o2
  ((dec (vU b (some a)),dec (vU b o1),dec (vU b o2),dec (vU b o3),())::(rDs b k (sU b o3)).1,(rDs b k (sU b o3)).2)
theorem rDs_zero (b:Bs) (o:Option Nat):rDs b 0 o=([],o):=by cases o <;> rfl
theorem rDs_none (b:Bs) (k:Nat):rDs b k none=([],none):=by cases k <;> rfl
theorem dgc_single (d:Dg):(dgc d).all AV.single=true:=rfl
section
variable {N:Nat} {h0:Heap} {A R:Nat} {b:Bs}
theorem f44_loop {n:Bs} {c a:Int} {z:dens T32} {v2:Option (Nat×Nat)} (hN:40≤N) (hAR:A≠R) (hA0:h0.next≤A) (hR0:h0.next≤R):∀ (k M:Nat) {h:Heap} {o:Option Nat} {s:SL} {acc:List Dg},k<M→acc.length+k≤1000→DQ h A b o→h.own R (CTy.tos T36 (n,c,a,s,z))→Fl h s 4 (flatD acc)→s.len=acc.length→s.blk≠some A→s.blk≠some R→(∀ B,s.blk=some B→h0.next≤B)→Chg [] h0 h→
  ∃ s' h',f44_l1 N M b v2 (some (A,0)) (some (R,0)) (k:Int) h=some (.exit 0,(b,v2,some (A,0),some (R,0),()),h')∧DQ h' A b (rDs b k o).2∧h'.own R (CTy.tos T36 (n,c,a,s',z))∧Fl h' s' 4 (flatD (acc++(rDs b k o).1))∧s'.len=(acc++(rDs b k o).1).length∧s'.blk≠some A∧s'.blk≠some R∧(∀ B,s'.blk=some B→h0.next≤B)∧Chg [] h0 h':=by
 intro k
 induction k with
 | zero=>
  intro M h o s acc hM hl p oR pF hlen sA sR sB ch
  obtain ⟨M,rfl⟩:∃ M',M=M'+1:=⟨M-1,by omega⟩
  refine ⟨s,h,?_,by rw [rDs_zero];exact p,oR,by rw [rDs_zero,List.append_nil];exact pF,by rw [rDs_zero,List.append_nil];exact hlen,sA,sR,sB,ch⟩
  rw [f44_l1_succ]
  unfold f44_l1_b
  simp only [ltI,decide_eq_false (show ¬ (0:Int)<((0:Nat):Int) by omega),cond_false]
 | succ k ih=>
  intro M h o s acc hM hl p oR pF hlen sA sR sB ch
  obtain ⟨M,rfl⟩:∃ M',M=M'+1:=⟨M-1,by omega⟩
  have dk:ltInt 0 ((k+1:Nat):Int)=true:=by rw [ltI];exact decide_eq_true (by omega)
  cases o with
  | none=>
   obtain ⟨a',e,q,p1,p2⟩:=p
   have k2:h.cell (A,2)=some (.int .i64 e):=Heap.own.cell p1 2
   refine ⟨s,h,?_,⟨a',e,q,p1,p2⟩,oR,by rw [rDs_none,List.append_nil];exact pF,by rw [rDs_none,List.append_nil];exact hlen,sA,sR,sB,ch⟩
   rw [f44_l1_succ]
   unfold f44_l1_b
   simp only [dk,cond_true,need_some,Nat.zero_add,k2,bindV_some,cast_int,eqI,decide_eq_false p2,cond_false]
  | some at_=>
   have k2:h.cell (A,2)=some (.int .i64 0):=by obtain ⟨⟨q,p1⟩,_⟩:=p;exact Heap.own.cell p1 2
   have hAl:=p.lt
   have hRl:=oR.2
   have c0:=chg_push h (.row [(AV.int .i64 0),(.int .i64 0),(.int .i64 0),(.int .i64 0)] .own)
   have w0:=own_push h [(AV.int .i64 0),(.int .i64 0),(.int .i64 0),(.int .i64 0)]
   have p0:=p.chg c0 (by simp)
   generalize hh21:h.push (.row [(AV.int .i64 0),(.int .i64 0),(.int .i64 0),(.int .i64 0)] .own)=h21 at *
   have nD:h.next ∉ [A]:=by simp;omega
   have fD:∀ {H H':Heap},Chg [A] h H→Chg [h.next] H H'→Chg [A] h H':=fun x y=>x.step y fun B hB hl=>by rw [List.mem_singleton.1 hB] at hl;omega
   have nA:A ∉ [h.next]:=by simp;omega
   obtain ⟨h23,e1,q1,g1⟩:=f42_eq (N:=N) p0 (by omega)
   generalize hx1:dec (vU b (some at_))=x1 at *
   have w1:=w0.chg g1 nD
   have s1:h23.store (h.next,0) [.int .i64 x1]=some (h23.put h.next (.row [(AV.int .i64 x1),(.int .i64 0),(.int .i64 0),(.int .i64 0)] .own)):=w1.store1 (j:=0) (by simp) _
   have w2:=own_put w1 [(AV.int .i64 x1),(.int .i64 0),(.int .i64 0),(.int .i64 0)]
   have q1':=q1.chg (w1.put [(AV.int .i64 x1),(.int .i64 0),(.int .i64 0),(.int .i64 0)]) nA
   have t1:=fD ((c0.mono (by simp)).trans g1) (w1.put [(AV.int .i64 x1),(.int .i64 0),(.int .i64 0),(.int .i64 0)])
   generalize h23.put h.next (.row [(AV.int .i64 x1),(.int .i64 0),(.int .i64 0),(.int .i64 0)] .own)=h24 at *
   obtain ⟨h26,e2,q2,g2⟩:=f42_eq (N:=N) q1' (by omega)
   generalize hx2:dec (vU b (sU b (some at_)))=x2 at *
   have w3:=w2.chg g2 nD
   have s2:h26.store (h.next,1) [.int .i64 x2]=some (h26.put h.next (.row [(AV.int .i64 x1),(.int .i64 x2),(.int .i64 0),(.int .i64 0)] .own)):=w3.store1 (j:=1) (by simp) _
   have w4:=own_put w3 [(AV.int .i64 x1),(.int .i64 x2),(.int .i64 0),(.int .i64 0)]
   have q2':=q2.chg (w3.put [(AV.int .i64 x1),(.int .i64 x2),(.int .i64 0),(.int .i64 0)]) nA
   have t2:=fD (t1.trans g2) (w3.put [(AV.int .i64 x1),(.int .i64 x2),(.int .i64 0),(.int .i64 0)])
   generalize h26.put h.next (.row [(AV.int .i64 x1),(.int .i64 x2),(.int .i64 0),(.int .i64 0)] .own)=h27 at *
   obtain ⟨h29,e3,q3,g3⟩:=f42_eq (N:=N) q2' (by omega)
   generalize hx3:dec (vU b (sU b (sU b (some at_))))=x3 at *
   have w5:=w4.chg g3 nD
   have s3:h29.store (h.next,2) [.int .i64 x3]=some (h29.put h.next (.row [(AV.int .i64 x1),(.int .i64 x2),(.int .i64 x3),(.int .i64 0)] .own)):=w5.store1 (j:=2) (by simp) _
   have w6:=own_put w5 [(AV.int .i64 x1),(.int .i64 x2),(.int .i64 x3),(.int .i64 0)]
   have q3':=q3.chg (w5.put [(AV.int .i64 x1),(.int .i64 x2),(.int .i64 x3),(.int .i64 0)]) nA
   have t3:=fD (t2.trans g3) (w5.put [(AV.int .i64 x1),(.int .i64 x2),(.int .i64 x3),(.int .i64 0)])
   generalize h29.put h.next (.row [(AV.int .i64 x1),(.int .i64 x2),(.int .i64 x3),(.int .i64 0)] .own)=h30 at *
   obtain ⟨h32,e4,q4,g4⟩:=f42_eq (N:=N) q3' (by omega)
   generalize hx4:dec (vU b (sU b (sU b (sU b (some at_)))))=x4 at *
   have w7:=w6.chg g4 nD
   have s4:h32.store (h.next,3) [.int .i64 x4]=some (h32.put h.next (.row [(AV.int .i64 x1),(.int .i64 x2),(.int .i64 x3),(.int .i64 x4)] .own)):=w7.store1 (j:=3) (by simp) _
   have w8:=own_put w7 [(AV.int .i64 x1),(.int .i64 x2),(.int .i64 x3),(.int .i64 x4)]
   have q4':=q4.chg (w7.put [(AV.int .i64 x1),(.int .i64 x2),(.int .i64 x3),(.int .i64 x4)]) nA
   have t4:=fD (t3.trans g4) (w7.put [(AV.int .i64 x1),(.int .i64 x2),(.int .i64 x3),(.int .i64 x4)])
   generalize h32.put h.next (.row [(AV.int .i64 x1),(.int .i64 x2),(.int .i64 x3),(.int .i64 x4)] .own)=h33 at *
   have oR':=oR.chg t4 (by simpa using Ne.symm hAR)
   have pF':=pF.chg t4 (fun B hB hm=>sA (by rw [hB,List.mem_singleton.1 hm]))
   have kR:=(cells36 oR').c3
   have kD:h33.cells (h.next,0) 4=some (.agg (dgc (x1,x2,x3,x4,()))):=by rw [w8.cells (j:=0) (m:=4) (by simp)];rfl
   obtain ⟨s',h39,a1,a2,a3,a4,a5⟩:=append_fl appDs (by omega) pF' (dgc_single (x1,x2,x3,x4,())) rfl (by rw [hlen];omega)
   have hblk:∀ C,s.blk≠some C→C ∉ s.blk.toList:=fun C hC hm=>by
    cases hb:s.blk with
    | none=>rw [hb] at hm;cases hm
    | some B=>rw [hb] at hm;simp at hm;exact hC (by rw [hb,hm])
   have nx:=t4.next
   have nb:∀ C,C<h.next→s.blk≠some C→s'.blk≠some C:=fun C hC hs e=>by
    rcases a5 C e with q | q
    ·exact hs q
    ·omega
   have oR2:=oR'.chg a4 (hblk R sR)
   have s5:h39.store (R,3) [SL.av s']=some (h39.put R (.row (CTy.tos T36 (n,c,a,s',z)) .own)):=oR2.store1 (j:=3) (by show 3<36;omega) _
   have oR3:=own_put oR2 (CTy.tos T36 (n,c,a,s',z))
   have cR:=oR2.put (CTy.tos T36 (n,c,a,s',z))
   have q5:=(q4'.chg a4 (hblk A sA)).chg cR (by simpa using hAR)
   have a2':=a2.chg cR (fun B hB hm=>nb R hRl sR (by rw [hB,List.mem_singleton.1 hm]))
   have ch':Chg [] h0 (h39.put R (.row (CTy.tos T36 (n,c,a,s',z)) .own)):=((ch.step t4 fun B hB hl=>by rw [List.mem_singleton.1 hB] at hl;omega).step a4 fun B hB hl=>by
    cases hb:s.blk with
    | none=>rw [hb] at hB;cases hB
    | some C=>rw [hb] at hB;simp at hB;have:=sB C hb;omega).step cR fun B hB hl=>by rw [List.mem_singleton.1 hB] at hl;omega
   generalize h39.put R (.row (CTy.tos T36 (n,c,a,s',z)) .own)=h41 at *
   have hacc:flatD acc++dgc (x1,x2,x3,x4,())=flatD (acc++[(x1,x2,x3,x4,())]):=by
    rw [flatD_app];simp [flatD]
   rw [hacc] at a2'
   have sB':∀ B,s'.blk=some B→h0.next≤B:=fun B hB=>by
    rcases a5 B hB with q | q
    ·exact sB B q
    ·have:=ch.next;omega
   obtain ⟨s6,h6,b1,b2,b3,b4,b5,b6,b7,b8,b9⟩:=ih M (acc:=acc++[(x1,x2,x3,x4,())]) (by omega) (by rw [List.length_append,List.length_singleton];omega) q5 oR3 a2' (by rw [a3,hlen,List.length_append];rfl) (nb A hAl sA) (nb R hRl sR) sB' ch'
   have hr:rDs b (k+1) (some at_)=((x1,x2,x3,x4,())::(rDs b k (sU b (sU b (sU b (sU b (some at_)))))).1,(rDs b k (sU b (sU b (sU b (sU b (some at_)))))).2):=by
    rw [rDs,hx1,hx2,hx3,hx4]
   have hap:acc++[(x1,x2,x3,x4,())]++(rDs b k (sU b (sU b (sU b (sU b (some at_)))))).1=acc++(rDs b (k+1) (some at_)).1:=by rw [hr,List.append_assoc];rfl
   rw [hap] at b4 b5
   refine ⟨s6,h6,?_,by rw [hr];exact b2,b3,b4,b5,b6,b7,b8,b9⟩
   have wk:wrapA .i64 (((k+1:Nat):Int)-1)=(k:Int):=by rw [wrapA_small (by omega) (by omega)];omega
   have hd4:[(AV.int .i64 x1),(.int .i64 x2),(.int .i64 x3),(.int .i64 x4)]=dgc (x1,x2,x3,x4,()):=rfl
   rw [f44_l1_succ]
   unfold f44_l1_b
   simp only [dk,cond_true,need_some,Nat.zero_add,k2,bindV_some,cast_int,eqI,decide_true,hh21,e1,bind2_some,s1,e2,s2,e3,s3,e4,s4,kR,cast_slice,kD,cast_dg]
   rw [hd4,a1]
   simp only [bindT_some,cast_slice]
   rw [show [AV.slice s'.a s'.len s'.cap s'.sz]=[SL.av s'] from rfl,s5]
   simp only [need_some,wk]
   exact b1
end
end Vp
namespace Vp
def zero36:dens T36:=([],0,0,⟨none,0,0,0⟩,z32)
def fieldsD (b:Bs):Rc×Option Nat:=
 let o1:=sT b 4 (some 0)
 let o2:=sT b 100 o1
 let o3:=sU b o2
 let o4:=sU b o3
 let q:=rDs b (vN b 1000 o4) (sN b 1000 o4)
 (⟨vT b 100 o1,dec (vU b o2),dec (vU b o3),q.1,vH b q.2⟩,sH b q.2)
def getD (b:Bs):Option Rc:=bif (fieldsD b).2.isNone then none else bif mayR (fieldsD b).1&&decide (putR (fieldsD b).1=b) then some (fieldsD b).1 else none
theorem vT_len (b:Bs) (lim:Nat) (o:Option Nat):(vT b lim o).length≤lim:=by
 unfold vT
 cases hs:sU b o with
 | none=>simp
 | some a=>
  simp only
  by_cases c:lim<vU b o
  ·rw [decide_eq_true c];simp
  ·rw [decide_eq_false c,cond_false]
   by_cases c2:b.length-a<vU b o
   ·rw [decide_eq_true c2];simp
   ·rw [decide_eq_false c2,cond_false,List.length_drop,List.length_take];omega
theorem vN_le (b:Bs) (lim:Nat) (o:Option Nat):vN b lim o≤lim:=by
 unfold vN
 cases hs:sU b o with
 | none=>simp
 | some a=>
  simp only
  by_cases c:lim<vU b o
  ·rw [decide_eq_true c];simp
  ·rw [decide_eq_false c,cond_false];omega
theorem eqB:∀ (a b:Bs),eqBytes a b=decide (a=b)
 | [],[]=>rfl
 | [],_::_=>rfl
 | _::_,[]=>rfl
 | x::a,y::b=>by
  have ih:=eqB a b
  have e:eqBytes (x::a) (y::b)=(Nat.beq x.toNat y.toNat&&eqBytes a b):=by first | rfl | (unfold eqBytes;rfl) | (simp only [eqBytes];cases Nat.beq x.toNat y.toNat <;> rfl)
  rw [e,ih]
  have q:Nat.beq x.toNat y.toNat=decide (x=y):=by
   rw [Bool.eq_iff_iff];simp only [Nat.beq_eq,decide_eq_true_eq]
   exact ⟨fun h=>UInt8.toNat.inj h,fun h=>by rw [h]⟩
  rw [q,← Bool.decide_and]
  exact decide_eq_decide.2 (by simp)
theorem own_storeN {h:Heap} {A:Nat} {cs vs:List AV} {j:Nat} (x:h.own A cs) (hl:j+vs.length≤cs.length):h.store (A,j) vs=some (h.put A (.row (cs.take j++vs++cs.drop (j+vs.length)) .own)):=by
 rw [Heap.store_g,x.1,storeB_own,over_many j cs vs hl];rfl
theorem Fl.all {h:Heap} {s:SL} {n:Nat} {vs:List AV} (p:Fl h s n vs):Sees h s vs:=by
 rcases p with ⟨h1,h2,h3,rfl⟩ | ⟨A,cs,st,h1,h2,h3,h4,h5,h6,h7,h8⟩
 ·exact ⟨by simp [h2],fun _=>h2,fun A off e=>by rw [h1] at e;cases e⟩
 ·refine ⟨by rw [h5,h2],fun e=>(by rw [h1] at e;cases e),fun A' off e=>?_⟩
  rw [h1] at e;cases e
  exact ⟨h3,cs,by rw [h4];rcases h8 with rfl | ⟨rfl,_⟩ <;> rfl,by rw [List.drop_zero];exact h6⟩
section
variable {N:Nat} {h:Heap} {b:Bs}
theorem f44_eq (hb:b.length≤10000000) (hN:3000≤N) :
  (∃ r x h',getD b=some r∧f44 N b h=some ((x,0,()),h')∧RC h' x r∧(∀ B,x.2.2.2.1.blk=some B→h.next≤B)∧Chg [] h h')∨
  (∃ h',getD b=none∧f44 N b h=some ((zero36,4,()),h')∧Chg [] h h'):=by
 have c1:=chg_push h (.row (CTy.tos T36 zero36) .own)
 have w1:=own36 h zero36
 have n1:(h.push (.row (CTy.tos T36 zero36) .own)).next=h.next+1:=rfl
 generalize hh1:h.push (.row (CTy.tos T36 zero36) .own)=h1 at *
 have c2:=chg_push h1 (.row [(AV.str b),(.int .i64 0),(.int .i64 0),(.int .i64 0)] .own)
 have w2:=own_push h1 [(AV.str b),(.int .i64 0),(.int .i64 0),(.int .i64 0)]
 have n2:(h1.push (.row [(AV.str b),(.int .i64 0),(.int .i64 0),(.int .i64 0)] .own)).next=h1.next+1:=rfl
 generalize hh2:h1.push (.row [(AV.str b),(.int .i64 0),(.int .i64 0),(.int .i64 0)] .own)=h2 at *
 have c3:=chg_push h2 (.row (CTy.tos T36 zero36) .own)
 have w3:=own36 h2 zero36
 generalize hh3:h2.push (.row (CTy.tos T36 zero36) .own)=h3 at *
 have p3:DQ h3 h1.next b (some 0):=⟨⟨0,Heap.own.chg w2 c3 (by simp)⟩,Nat.zero_le _,hb⟩
 have nR:h2.next ∉ [h1.next]:=by simp;omega
 have nA:h1.next ∉ [h2.next]:=by simp;omega
 have b3:Chg [] h1 h3:=c2.trans c3
 have ca:∀ {H H':Heap},Chg [] h1 H→Chg [h1.next] H H'→Chg [] h1 H':=fun x y=>x.step y fun B hB hl=>by rw [List.mem_singleton.1 hB] at hl;omega
 have cr:∀ {H H':Heap},Chg [] h1 H→Chg [h2.next] H H'→Chg [] h1 H':=fun x y=>x.step y fun B hB hl=>by rw [List.mem_singleton.1 hB] at hl;omega
 obtain ⟨h5,e5,q5,g5⟩:=f41_eq (N:=N) p3 (lim:=4) (by omega) (by omega)
 have b5:=ca b3 g5
 generalize ho1:sT b 4 (some 0)=o1 at *
 obtain ⟨h7,e7,q7,g7⟩:=f41_eq (N:=N) q5 (lim:=100) (by omega) (by omega)
 have b7:=ca b5 g7
 have hnl:=vT_len b 100 o1
 generalize hnm:vT b 100 o1=nm at *
 generalize ho2:sT b 100 o1=o2 at *
 have r7:=(w3.chg g5 nR).chg g7 nR
 have s8:h7.store (h2.next,0) [.str nm]=some (h7.put h2.next (.row (CTy.tos T36 (nm,0,0,⟨none,0,0,0⟩,z32)) .own)):=r7.store1 (j:=0) (by show 0<36;omega) _
 have r8:=own_put r7 (CTy.tos T36 (nm,0,0,⟨none,0,0,0⟩,z32))
 have g8:=r7.put (CTy.tos T36 (nm,0,0,⟨none,0,0,0⟩,z32))
 have q8:=q7.chg g8 nA
 have b8:=cr b7 g8
 generalize h7.put h2.next (.row (CTy.tos T36 (nm,0,0,⟨none,0,0,0⟩,z32)) .own)=h8 at *
 obtain ⟨h10,e10,q10,g10⟩:=f42_eq (N:=N) q8 (by omega)
 have b10:=ca b8 g10
 generalize hcd:dec (vU b o2)=cd at *
 generalize ho3:sU b o2=o3 at *
 have r10:=r8.chg g10 nR
 have s11:h10.store (h2.next,1) [.int .i64 cd]=some (h10.put h2.next (.row (CTy.tos T36 (nm,cd,0,⟨none,0,0,0⟩,z32)) .own)):=r10.store1 (j:=1) (by show 1<36;omega) _
 have r11:=own_put r10 (CTy.tos T36 (nm,cd,0,⟨none,0,0,0⟩,z32))
 have g11:=r10.put (CTy.tos T36 (nm,cd,0,⟨none,0,0,0⟩,z32))
 have q11:=q10.chg g11 nA
 have b11:=cr b10 g11
 generalize h10.put h2.next (.row (CTy.tos T36 (nm,cd,0,⟨none,0,0,0⟩,z32)) .own)=h11 at *
 obtain ⟨h13,e13,q13,g13⟩:=f42_eq (N:=N) q11 (by omega)
 have b13:=ca b11 g13
 generalize hat:dec (vU b o3)=at_ at *
 generalize ho4:sU b o3=o4 at *
 have r13:=r11.chg g13 nR
 have s14:h13.store (h2.next,2) [.int .i64 at_]=some (h13.put h2.next (.row (CTy.tos T36 (nm,cd,at_,⟨none,0,0,0⟩,z32)) .own)):=r13.store1 (j:=2) (by show 2<36;omega) _
 have r14:=own_put r13 (CTy.tos T36 (nm,cd,at_,⟨none,0,0,0⟩,z32))
 have g14:=r13.put (CTy.tos T36 (nm,cd,at_,⟨none,0,0,0⟩,z32))
 have q14:=q13.chg g14 nA
 have b14:=cr b13 g14
 generalize h13.put h2.next (.row (CTy.tos T36 (nm,cd,at_,⟨none,0,0,0⟩,z32)) .own)=h14 at *
 obtain ⟨h16,e16,q16,g16⟩:=f43_eq (N:=N) q14 (lim:=1000) (by omega) (by omega)
 have b16:=ca b14 g16
 have hcl:=vN_le b 1000 o4
 generalize hcn:vN b 1000 o4=cn at *
 generalize ho5:sN b 1000 o4=o5 at *
 have r16:=r14.chg g16 nR
 obtain ⟨s,h45,e45,q45,r45,fl,fln,fa,fr,fb,b45⟩:=f44_loop (N:=N) (h0:=h1) (A:=h1.next) (R:=h2.next) (b:=b) (v2:=some (h.next,0)) (by omega) (by omega) (by omega) (by omega) cn N (s:=⟨none,0,0,0⟩) (acc:=[]) (by omega) (by simpa using hcl) q16 r16 (Fl.nil h16 0 4) rfl (by simp [SL.blk]) (by simp [SL.blk]) (by simp [SL.blk]) b16
 generalize hds:(rDs b cn o5).1=ds at *
 generalize ho6:(rDs b cn o5).2=o6 at *
 rw [List.nil_append] at fl fln
 obtain ⟨x,h47,hx,e47,q47,g47⟩:=f45_eq (N:=N) q45 (by omega)
 have b47:=ca b45 g47
 have r47:=r45.chg g47 nR
 have hF:fieldsD b=(⟨nm,cd,at_,ds,vH b o6⟩,sH b o6):=by
  simp only [fieldsD,ho1,ho2,hnm,hcd,ho3,hat,ho4,hcn,ho5,hds,ho6]
 generalize hsg:vH b o6=sg at *
 generalize ho7:sH b o6=o7 at *
 have s49:h47.store (h2.next,4) (CTy.tos T32 x)=some (h47.put h2.next (.row (CTy.tos T36 (nm,cd,at_,s,x)) .own)):=own_storeN r47 (j:=4) (by show 4+32≤36;omega)
 have r49:=own_put r47 (CTy.tos T36 (nm,cd,at_,s,x))
 have g49:=r47.put (CTy.tos T36 (nm,cd,at_,s,x))
 have q49:=q47.chg g49 nA
 have b49:=cr b47 g49
 have fl49:=(fl.chg g47 (fun B hB hm=>fa (by rw [hB,List.mem_singleton.1 hm]))).chg g49 (fun B hB hm=>fr (by rw [hB,List.mem_singleton.1 hm]))
 generalize h47.put h2.next (.row (CTy.tos T36 (nm,cd,at_,s,x)) .own)=h49 at *
 have hz:((AV.str [])::(.int .i64 0)::(.int .i64 0)::(.slice none 0 0 0)::CTy.tos T32 z32)=CTy.tos T36 zero36:=rfl
 have cellsN:∀ {H:Heap} {A:Nat} {y:dens T36},H.own A (CTy.tos T36 y)→H.cells (A,0) 36=some (.agg (CTy.tos T36 y)):=fun o=>by rw [o.cells (j:=0) (m:=36) (by show 0+36≤36;omega)];rfl
 have out:∀ {H:Heap} (y:dens T36),Chg [] h1 H→H.store (h.next,0) (CTy.tos T36 y)=some (H.put h.next (.row (CTy.tos T36 y) .own))∧(H.put h.next (.row (CTy.tos T36 y) .own)).cells (h.next,0) 36=some (.agg (CTy.tos T36 y))∧Chg [] h (H.put h.next (.row (CTy.tos T36 y) .own)):=fun {H} y ch=>by
  have o:=w1.chg ch (by simp)
  exact ⟨o.store rfl,cellsN (own_put o _),(c1.trans ch).step (o.put _) fun B hB hl=>by rw [List.mem_singleton.1 hB] at hl;omega⟩
 have hd:∀ (y:Option ((dens T36×Int×Unit)×Heap)),y=y:=fun _=>rfl
 cases o7 with
 | none=>
  obtain ⟨a',e,q,p1,p2⟩:=q49
  have k2:h49.cell (h1.next,2)=some (.int .i64 e):=Heap.own.cell p1 2
  obtain ⟨u1,u2,u3⟩:=out zero36 b49
  refine .inr ⟨_,by simp only [getD,hF];rfl,?_,u3⟩
  unfold f44
  simp only [hz,hh1,hh2,hh3]
  rw [show ((4:Nat):Int)=4 from rfl] at e5
  rw [show ((100:Nat):Int)=100 from rfl] at e7
  rw [show ((1000:Nat):Int)=1000 from rfl] at e16
  simp only [e5,e7,bind2_some,Nat.zero_add,s8,need_some,e10,s11,e13,s14,e16,e45,bind3_some,e47,s49,k2,bindV_some,cast_int,eqI,decide_eq_false p2,Bool.not_false,cond_true,u1,u2,cast36]
 | some a7=>
  have k2:h49.cell (h1.next,2)=some (.int .i64 0):=by obtain ⟨⟨q,p1⟩,_⟩:=q49;exact Heap.own.cell p1 2
  have RCr:RC h49 (nm,cd,at_,s,x) ⟨nm,cd,at_,ds,sg⟩:=by
   refine ⟨rfl,rfl,rfl,⟨fln,?_,fl49.all⟩,hx⟩
   exact fl49.sees.1
  rw [show ((4:Nat):Int)=4 from rfl] at e5
  rw [show ((100:Nat):Int)=100 from rfl] at e7
  rw [show ((1000:Nat):Int)=1000 from rfl] at e16
  cases hm:mayR ⟨nm,cd,at_,ds,sg⟩ with
  | false=>
   obtain ⟨h60,e60,g60⟩:=f36_bad (N:=N) RCr hN (by show nm.length≤2000;omega) hm
   obtain ⟨u1,u2,u3⟩:=out zero36 (b49.trans g60)
   refine .inr ⟨_,by simp only [getD,hF,hm];rfl,?_,u3⟩
   unfold f44
   simp only [hz,hh1,hh2,hh3]
   simp only [e5,e7,bind2_some,Nat.zero_add,s8,need_some,e10,s11,e13,s14,e16,e45,bind3_some,e47,s49,k2,bindV_some,cast_int,eqI,decide_true,Bool.not_true,cond_false,cellsN r49,cast36,e60,decide_eq_false (show ¬ (1:Int)=0 by omega),Bool.not_false,cond_true,u1,u2]
  | true=>
   obtain ⟨h60,e60,g60⟩:=f36_good (N:=N) RCr hN (by show nm.length≤2000;omega) hm
   by_cases hp:putR ⟨nm,cd,at_,ds,sg⟩=b
   ·have r60:=r49.chg g60 (by simp)
    obtain ⟨u1,u2,u3⟩:=out (nm,cd,at_,s,x) (b49.trans g60)
    have oh:=w1.chg (b49.trans g60) (by simp)
    refine .inl ⟨⟨nm,cd,at_,ds,sg⟩,(nm,cd,at_,s,x),_,by simp only [getD,hF,hm,decide_eq_true hp];rfl,?_,?_,fun B hB=>(by have:=fb B hB;omega),u3⟩
    ·unfold f44
     simp only [hz,hh1,hh2,hh3]
     simp only [e5,e7,bind2_some,Nat.zero_add,s8,need_some,e10,s11,e13,s14,e16,e45,bind3_some,e47,s49,k2,bindV_some,cast_int,eqI,decide_true,Bool.not_true,cond_false,cellsN r49,cast36,e60,eqB,decide_eq_true hp,cellsN r60,u1,u2]
    ·have R2:=RCr.chg g60
     refine ⟨rfl,rfl,rfl,R2.ds.chg (oh.put _) (fun B hB hm=>?_),hx⟩
     have:=fb B hB
     rw [List.mem_singleton.1 hm] at this;omega
   ·obtain ⟨u1,u2,u3⟩:=out zero36 (b49.trans g60)
    refine .inr ⟨_,by simp only [getD,hF,hm,decide_eq_false hp];rfl,?_,u3⟩
    unfold f44
    simp only [hz,hh1,hh2,hh3]
    simp only [e5,e7,bind2_some,Nat.zero_add,s8,need_some,e10,s11,e13,s14,e16,e45,bind3_some,e47,s49,k2,bindV_some,cast_int,eqI,decide_true,Bool.not_true,cond_false,cellsN r49,cast36,e60,eqB,decide_eq_false hp,Bool.not_false,cond_true,u1,u2]
end
end Vp
namespace Vp
def rRs (b:Bs):Nat→Option Nat→Option (List Rc×Option Nat)
 | 0,o=>some ([],o)
 | _+1,none=>some ([],none)
 | k+1,some a=>match getD (vT b 4194304 (some a)) with
  | none=>none
  | some r=>(rRs b k (sT b 4194304 (some a))).map fun p=>(r::p.1,p.2)
theorem flatR_app:∀ (a b:List (dens T36)),flatR (a++b)=flatR a++flatR b
 | [],b=>rfl
 | x::r,b=>by simp only [List.cons_append,flatR,flatR_app r b,List.append_assoc]
theorem tos36_single (x:dens T36):(CTy.tos T36 x).all AV.single=true:=rfl
theorem RC.chgM {h h':Heap} {x:dens T36} {r:Rc} {M:List Nat} (p:RC h x r) (c:Chg M h h') (hM:∀ B,x.2.2.2.1.blk=some B→B ∉ M):RC h' x r:=⟨p.name,p.code,p.at_,p.ds.chg c hM,p.sig⟩
theorem RC.lt {h:Heap} {x:dens T36} {r:Rc} (p:RC h x r):∀ B,x.2.2.2.1.blk=some B→B<h.next:=by
 intro B hB
 obtain ⟨_,_,_,_,q⟩:=p.ds
 cases ha:x.2.2.2.1.a with
 | none=>simp [SL.blk,ha] at hB
 | some w=>
  simp [SL.blk,ha] at hB
  have:=(q w.1 w.2 ha).1
  omega
structure RB (h:Heap) (A V lo:Nat) (s:SL) (xs:List (dens T36)) (l:List Rc):Prop where
 fl:Fl h s 36 (flatR xs)
 len:s.len=l.length
 eqn:xs.length=l.length
 rcs:∀ i (h1:i<xs.length) (h2:i<l.length),RC h xs[i] l[i]
 bk:∀ y∈xs,∀ B,y.2.2.2.1.blk=some B→B≠A∧B≠V∧s.blk≠some B∧lo≤B
 sA:s.blk≠some A
 sV:s.blk≠some V
section
variable {N:Nat} {h h' h0:Heap} {A V O lo:Nat} {b:Bs} {s:SL} {xs:List (dens T36)} {l:List Rc}
theorem RB.chg {M:List Nat} (p:RB h A V lo s xs l) (c:Chg M h h') (hM:∀ C∈M,C=A∨C=V∨h.next≤C):RB h' A V lo s xs l:=by
 refine ⟨p.fl.chg c fun B hB hm=>?_,p.len,p.eqn,fun i h1 h2=>(p.rcs i h1 h2).chgM c fun B hB hm=>?_,p.bk,p.sA,p.sV⟩
 ·rcases hM B hm with q | q | q
  ·exact p.sA (by rw [hB,q])
  ·exact p.sV (by rw [hB,q])
  ·have:=p.fl.lt B hB;omega
 ·have hb:=p.bk _ (List.getElem_mem h1) B hB
  rcases hM B hm with q | q | q
  ·exact hb.1 q
  ·exact hb.2.1 q
  ·have:=(p.rcs i h1 h2).lt B hB;omega
theorem RB.snoc {x:dens T36} {r:Rc} (p:RB h A V lo s xs l) (hr:RC h x r) (hb:∀ B,x.2.2.2.1.blk=some B→B≠A∧B≠V∧s.blk≠some B∧lo≤B) (hA:A<h.next) (hV:V<h.next) (hl:l.length≤1000) :
  ∃ s' h',appendA E 23 23 (.slice s.a s.len s.cap s.sz) (.slice (some (h.next,0)) 1 1 36) (h.push (.row (CTy.tos T36 x) .own))=some (.slice s'.a s'.len s'.cap s'.sz,h')∧RB h' A V lo s' (xs++[x]) (l++[r])∧Chg s.blk.toList h h'∧(∀ B,s'.blk=some B→s.blk=some B∨h.next≤B):=by
 obtain ⟨s',h',a1,a2,a3,a4,a5⟩:=append_fl appRs (by omega) p.fl (tos36_single x) rfl (by rw [p.len];omega)
 have hblk:∀ C,s.blk≠some C→C ∉ s.blk.toList:=fun C hC hm=>by
  cases hq:s.blk with
  | none=>rw [hq] at hm;cases hm
  | some B=>rw [hq] at hm;simp at hm;exact hC (by rw [hq,hm])
 have nb:∀ C,C<h.next→s.blk≠some C→s'.blk≠some C:=fun C hC hs e=>by
  rcases a5 C e with q | q
  ·exact hs q
  ·omega
 have bad:∀ i (h1:i<xs.length) (h2:i<l.length) B,xs[i].2.2.2.1.blk=some B→B ∉ s.blk.toList:=fun i h1 h2 B hB=>hblk B (p.bk _ (List.getElem_mem h1) B hB).2.2.1
 refine ⟨s',h',a1,⟨?_,by rw [a3,p.len,List.length_append];rfl,by rw [List.length_append,List.length_append,p.eqn];rfl,fun i h1 h2=>?_,fun y hy B hB=>?_,nb A hA p.sA,nb V hV p.sV⟩,a4,a5⟩
 ·rw [flatR_app];simpa [flatR] using a2
 ·by_cases q:i<xs.length
  ·rw [List.getElem_append_left q,List.getElem_append_left (by rw [← p.eqn];exact q)]
   exact (p.rcs i q (by rw [← p.eqn];exact q)).chgM a4 (bad i q (by rw [← p.eqn];exact q))
  ·have e:i=xs.length:=by rw [List.length_append,List.length_singleton] at h1;omega
   subst e
   rw [List.getElem_append_right (Nat.le_refl _),List.getElem_append_right (by rw [p.eqn];exact Nat.le_refl _)]
   simp only [Nat.sub_self,List.getElem_cons_zero,p.eqn]
   exact hr.chgM a4 fun B hB=>hblk B (hb B hB).2.2.1
 ·rcases List.mem_append.1 hy with hy | hy
  ·obtain ⟨i,h1,rfl⟩:=List.getElem_of_mem hy
   have q:=p.bk _ hy B hB
   have hlt:=(p.rcs i h1 (by rw [← p.eqn];exact h1)).lt B hB
   exact ⟨q.1,q.2.1,nb B hlt q.2.2.1,q.2.2.2⟩
  ·rw [List.mem_singleton.1 hy] at hB
   have q:=hb B hB
   exact ⟨q.1,q.2.1,nb B (hr.lt B hB) q.2.2.1,q.2.2.2⟩
end
end Vp
namespace Vp
def zero35:dens T35:=(0,0,⟨none,0,0,0⟩,z32)
section
variable {N:Nat} {h0:Heap} {A V O:Nat} {b:Bs}
theorem cellsN36 {H:Heap} {A:Nat} {y:dens T36} (o:H.own A (CTy.tos T36 y)):H.cells (A,0) 36=some (.agg (CTy.tos T36 y)):=by rw [o.cells (j:=0) (m:=36) (by show 0+36≤36;omega)];rfl
theorem f11_loop {c a:Int} {z:dens T32} {y0:dens T35} (hb:b.length≤10000000) (hN:3000≤N) (hAV:A≠V) (hA0:h0.next≤A) (hV0:h0.next≤V) (wO:h0.own O (CTy.tos T35 y0)):∀ (k M:Nat) {h:Heap} {o:Option Nat} {s:SL} {xs:List (dens T36)} {l:List Rc},k<M→l.length+k≤64→DQ h A b o→h.own V (CTy.tos T35 (c,a,s,z))→RB h A V h0.next s xs l→(∀ B,s.blk=some B→h0.next≤B)→Chg [] h0 h→
  (∃ s' xs' l' o' h',rRs b k o=some (l',o')∧f11_l1 N M b (some (O,0)) 0 (some (A,0)) (some (V,0)) (k:Int) h=some (.exit 0,(b,some (O,0),0,some (A,0),some (V,0),()),h')∧DQ h' A b o'∧h'.own V (CTy.tos T35 (c,a,s',z))∧RB h' A V h0.next s' xs' (l++l')∧(∀ B,s'.blk=some B→h0.next≤B)∧Chg [] h0 h')∨
  (∃ h',rRs b k o=none∧f11_l1 N M b (some (O,0)) 0 (some (A,0)) (some (V,0)) (k:Int) h=some (.ret,(b,some (O,0),4,some (A,0),some (V,0),()),h')∧h'.own O (CTy.tos T35 zero35)∧Chg [O] h0 h'):=by
 intro k
 induction k with
 | zero=>
  intro M h o s xs l hM hl p oV pB sB ch
  obtain ⟨M,rfl⟩:∃ M',M=M'+1:=⟨M-1,by omega⟩
  refine .inl ⟨s,xs,[],o,h,by cases o <;> rfl,?_,p,oV,by rw [List.append_nil];exact pB,sB,ch⟩
  rw [f11_l1_succ]
  unfold f11_l1_b
  simp only [ltI,decide_eq_false (show ¬ (0:Int)<((0:Nat):Int) by omega),cond_false]
 | succ k ih=>
  intro M h o s xs l hM hl p oV pB sB ch
  obtain ⟨M,rfl⟩:∃ M',M=M'+1:=⟨M-1,by omega⟩
  have dk:ltInt 0 ((k+1:Nat):Int)=true:=by rw [ltI];exact decide_eq_true (by omega)
  cases o with
  | none=>
   obtain ⟨a',e,q,p1,p2⟩:=p
   have k2:h.cell (A,2)=some (.int .i64 e):=Heap.own.cell p1 2
   refine .inl ⟨s,xs,[],none,h,rfl,?_,⟨a',e,q,p1,p2⟩,oV,by rw [List.append_nil];exact pB,sB,ch⟩
   rw [f11_l1_succ]
   unfold f11_l1_b
   simp only [dk,cond_true,need_some,Nat.zero_add,k2,bindV_some,cast_int,eqI,decide_eq_false p2,cond_false]
  | some at_=>
   have k2:h.cell (A,2)=some (.int .i64 0):=by obtain ⟨⟨q,p1⟩,_⟩:=p;exact Heap.own.cell p1 2
   have hAl:=p.lt
   have hVl:=oV.2
   obtain ⟨h19,e1,q1,g1⟩:=f41_eq (N:=N) p (lim:=4194304) (by omega) (by omega)
   have htl:=vT_len b 4194304 (some at_)
   have hrr:rRs b (k+1) (some at_)=(match getD (vT b 4194304 (some at_)) with | none=>none | some r=>(rRs b k (sT b 4194304 (some at_))).map fun p=>(r::p.1,p.2)):=rfl
   generalize vT b 4194304 (some at_)=t at *
   generalize sT b 4194304 (some at_)=o1 at *
   have n19:=g1.next
   have pB19:=pB.chg g1 (fun C hC=>.inl (List.mem_singleton.1 hC))
   have oV19:=oV.chg g1 (by simpa using Ne.symm hAV)
   have ch19:Chg [] h0 h19:=ch.step g1 fun B hB hl=>by rw [List.mem_singleton.1 hB] at hl;omega
   have z36:((AV.str [])::(.int .i64 0)::(.int .i64 0)::(.slice none 0 0 0)::CTy.tos T32 z32)=CTy.tos T36 zero36:=rfl
   have z35:((AV.int .i64 0)::(.int .i64 0)::(.slice none 0 0 0)::CTy.tos T32 z32)=CTy.tos T35 zero35:=rfl
   rw [show ((4194304:Nat):Int)=4194304 from rfl] at e1
   rcases f44_eq (N:=N) (h:=h19) (b:=t) (by omega) hN with ⟨r,x,h21,hg,e2,hr,hrb,g2⟩ | ⟨h21,hg,e2,g2⟩
   ·have n21:=g2.next
    have c22:=chg_push h21 (.row (CTy.tos T36 zero36) .own)
    have w22:=own36 h21 zero36
    have s23:(h21.push (.row (CTy.tos T36 zero36) .own)).store (h21.next,0) (CTy.tos T36 x)=some ((h21.push (.row (CTy.tos T36 zero36) .own)).put h21.next (.row (CTy.tos T36 x) .own)):=w22.store rfl
    have w23:=own_put w22 (CTy.tos T36 x)
    have g23:Chg [] h21 ((h21.push (.row (CTy.tos T36 zero36) .own)).put h21.next (.row (CTy.tos T36 x) .own)):=c22.step (w22.put _) fun B hB hl=>by rw [List.mem_singleton.1 hB] at hl;omega
    generalize (h21.push (.row (CTy.tos T36 zero36) .own)).put h21.next (.row (CTy.tos T36 x) .own)=h23 at *
    have n23:=g23.next
    have pB23:=(pB19.chg g2 (by simp)).chg g23 (by simp)
    have oV23:=(oV19.chg g2 (by simp)).chg g23 (by simp)
    have q23:=(q1.chg g2 (by simp)).chg g23 (by simp)
    have ch23:=(ch19.trans g2).trans g23
    have kV:=(cells35 oV23).c2
    obtain ⟨s',h32,a1,a2,a4,a5⟩:=pB23.snoc (hr.chg g23) (fun B hB=>by
     have:=hrb B hB
     have hlo:=ch19.next
     refine ⟨by omega,by omega,fun e=>?_,by omega⟩
     have:=pB19.fl.lt B e
     omega) (by omega) (by omega) (by omega)
    have hblk:∀ C,s.blk≠some C→C ∉ s.blk.toList:=fun C hC hm=>by
     cases hq:s.blk with
     | none=>rw [hq] at hm;cases hm
     | some B=>rw [hq] at hm;simp at hm;exact hC (by rw [hq,hm])
    have oV32:=oV23.chg a4 (hblk V pB.sV)
    have s34:h32.store (V,2) [SL.av s']=some (h32.put V (.row (CTy.tos T35 (c,a,s',z)) .own)):=oV32.store1 (j:=2) (by show 2<35;omega) _
    have oV34:=own_put oV32 (CTy.tos T35 (c,a,s',z))
    have cV:=oV32.put (CTy.tos T35 (c,a,s',z))
    have q34:=(q23.chg a4 (hblk A pB.sA)).chg cV (by simpa using hAV)
    have pB34:=a2.chg cV (fun C hC=>.inr (.inl (List.mem_singleton.1 hC)))
    have ch34:Chg [] h0 (h32.put V (.row (CTy.tos T35 (c,a,s',z)) .own)):=(ch23.step a4 fun B hB hl=>by
     cases hq:s.blk with
     | none=>rw [hq] at hB;cases hB
     | some C=>rw [hq] at hB;simp at hB;have:=sB C hq;omega).step cV fun B hB hl=>by rw [List.mem_singleton.1 hB] at hl;omega
    generalize h32.put V (.row (CTy.tos T35 (c,a,s',z)) .own)=h34 at *
    have sB':∀ B,s'.blk=some B→h0.next≤B:=fun B hB=>by
     rcases a5 B hB with q | q
     ·exact sB B q
     ·have:=ch23.next;omega
    have wk:wrapA .i64 (((k+1:Nat):Int)-1)=(k:Int):=by rw [wrapA_small (by omega) (by omega)];omega
    have step:f11_l1 N (M+1) b (some (O,0)) 0 (some (A,0)) (some (V,0)) ((k+1:Nat):Int) h=f11_l1 N M b (some (O,0)) 0 (some (A,0)) (some (V,0)) (k:Int) h34:=by
     rw [f11_l1_succ]
     unfold f11_l1_b
     simp only [dk,cond_true,need_some,Nat.zero_add,k2,bindV_some,cast_int,eqI,decide_true,e1,bind2_some,e2,z36,s23,Bool.not_true,cond_false,kV,cast_slice,cellsN36 w23,cast36,a1,bindT_some]
     rw [show [AV.slice s'.a s'.len s'.cap s'.sz]=[SL.av s'] from rfl,s34]
     simp only [need_some,wk]
    rcases ih M (by omega) (by rw [List.length_append,List.length_singleton];omega) q34 oV34 pB34 sB' ch34 with ⟨s6,xs6,l6,o6,h6,b1,b2,b3,b4,b5,b6,b7⟩ | ⟨h6,b1,b2,b3,b4⟩
    ·exact .inl ⟨s6,xs6,r::l6,o6,h6,by rw [hrr,hg];simp only [b1,Option.map_some],by rw [step,b2],b3,b4,by rw [List.append_assoc] at b5;exact b5,b6,b7⟩
    ·exact .inr ⟨h6,by rw [hrr,hg];simp only [b1,Option.map_none],by rw [step,b2],b3,b4⟩
   ·have c22:=chg_push h21 (.row (CTy.tos T36 zero36) .own)
    have w22:=own36 h21 zero36
    have s23:(h21.push (.row (CTy.tos T36 zero36) .own)).store (h21.next,0) (CTy.tos T36 zero36)=some ((h21.push (.row (CTy.tos T36 zero36) .own)).put h21.next (.row (CTy.tos T36 zero36) .own)):=w22.store rfl
    have g23:Chg [] h21 ((h21.push (.row (CTy.tos T36 zero36) .own)).put h21.next (.row (CTy.tos T36 zero36) .own)):=c22.step (w22.put _) fun B hB hl=>by rw [List.mem_singleton.1 hB] at hl;omega
    generalize (h21.push (.row (CTy.tos T36 zero36) .own)).put h21.next (.row (CTy.tos T36 zero36) .own)=h23 at *
    have ch23:=(ch19.trans g2).trans g23
    have oO:=wO.chg ch23 (by simp)
    have s25:h23.store (O,0) (CTy.tos T35 zero35)=some (h23.put O (.row (CTy.tos T35 zero35) .own)):=oO.store rfl
    refine .inr ⟨_,by rw [hrr,hg],?_,own_put oO _,(ch23.mono (by simp)).trans (oO.put (CTy.tos T35 zero35))⟩
    rw [f11_l1_succ]
    unfold f11_l1_b
    simp only [dk,cond_true,need_some,Nat.zero_add,k2,bindV_some,cast_int,eqI,decide_true,e1,bind2_some,e2,z36,s23,decide_eq_false (show ¬ (4:Int)=0 by omega),Bool.not_false]
    simp only [z35,s25,need_some]
end
end Vp
namespace Vp
def getV (b:Bs):Option Vd:=
 let o1:=sT b 4 (some 0)
 let o2:=sU b o1
 let o3:=sU b o2
 match rRs b (vN b 64 o3) (sN b 64 o3) with
 | none=>none
 | some (l,o5)=>bif (sH b o5).isNone then none else bif mayV ⟨dec (vU b o1),dec (vU b o2),l,vH b o5⟩&&decide (putV ⟨dec (vU b o1),dec (vU b o2),l,vH b o5⟩=b) then some ⟨dec (vU b o1),dec (vU b o2),l,vH b o5⟩ else none
theorem getD_name {b:Bs} {r:Rc} (h:getD b=some r):r.name.length≤100:=by
 unfold getD at h
 cases q1:(fieldsD b).2.isNone with
 | true=>rw [q1] at h;cases h
 | false=>
  rw [q1,cond_false] at h
  cases q2:(mayR (fieldsD b).1&&decide (putR (fieldsD b).1=b)) with
  | false=>rw [q2] at h;cases h
  | true=>
   rw [q2,cond_true] at h
   cases h
   exact vT_len _ _ _
theorem rRs_name {b:Bs}:∀ {k:Nat} {o:Option Nat} {l:List Rc} {o':Option Nat},rRs b k o=some (l,o')→∀ r∈l,r.name.length≤100
 | 0,o,l,o',h=>by cases h;intro r hr;cases hr
 | k+1,none,l,o',h=>by cases h;intro r hr;cases hr
 | k+1,some a,l,o',h=>by
  unfold rRs at h
  cases hg:getD (vT b 4194304 (some a)) with
  | none=>rw [hg] at h;cases h
  | some r0=>
   rw [hg] at h
   simp only at h
   cases hq:rRs b k (sT b 4194304 (some a)) with
   | none=>rw [hq] at h;cases h
   | some w=>
    rw [hq] at h
    cases h
    intro r hr
    rcases List.mem_cons.1 hr with rfl | hr
    ·exact getD_name hg
    ·exact rRs_name (l:=w.1) (o':=w.2) hq r hr
section
variable {N:Nat} {h:Heap} {b:Bs}
theorem cellsN35 {H:Heap} {A:Nat} {y:dens T35} (o:H.own A (CTy.tos T35 y)):H.cells (A,0) 35=some (.agg (CTy.tos T35 y)):=(cells35 o).all
theorem f11_eq (hb:b.length≤10000000) (hN:3000≤N) :
  (∃ v x xs h',getV b=some v∧f11 N b h=some ((x,0,()),h')∧VC h' x xs v∧Chg [] h h')∨
  (∃ h',getV b=none∧f11 N b h=some ((zero35,4,()),h')∧Chg [] h h'):=by
 have c1:=chg_push h (.row (CTy.tos T35 zero35) .own)
 have w1:=own35 h zero35
 have n1:(h.push (.row (CTy.tos T35 zero35) .own)).next=h.next+1:=rfl
 generalize hh1:h.push (.row (CTy.tos T35 zero35) .own)=h1 at *
 have c2:=chg_push h1 (.row [(AV.str b),(.int .i64 0),(.int .i64 0),(.int .i64 0)] .own)
 have w2:=own_push h1 [(AV.str b),(.int .i64 0),(.int .i64 0),(.int .i64 0)]
 have n2:(h1.push (.row [(AV.str b),(.int .i64 0),(.int .i64 0),(.int .i64 0)] .own)).next=h1.next+1:=rfl
 generalize hh2:h1.push (.row [(AV.str b),(.int .i64 0),(.int .i64 0),(.int .i64 0)] .own)=h2 at *
 have c3:=chg_push h2 (.row (CTy.tos T35 zero35) .own)
 have w3:=own35 h2 zero35
 generalize hh3:h2.push (.row (CTy.tos T35 zero35) .own)=h3 at *
 have p3:DQ h3 h1.next b (some 0):=⟨⟨0,Heap.own.chg w2 c3 (by simp)⟩,Nat.zero_le _,hb⟩
 have nR:h2.next ∉ [h1.next]:=by simp;omega
 have nA:h1.next ∉ [h2.next]:=by simp;omega
 have b3:Chg [] h1 h3:=c2.trans c3
 have ca:∀ {H H':Heap},Chg [] h1 H→Chg [h1.next] H H'→Chg [] h1 H':=fun x y=>x.step y fun B hB hl=>by rw [List.mem_singleton.1 hB] at hl;omega
 have cr:∀ {H H':Heap},Chg [] h1 H→Chg [h2.next] H H'→Chg [] h1 H':=fun x y=>x.step y fun B hB hl=>by rw [List.mem_singleton.1 hB] at hl;omega
 obtain ⟨h5,e5,q5,g5⟩:=f41_eq (N:=N) p3 (lim:=4) (by omega) (by omega)
 have b5:=ca b3 g5
 have hG:getV b=(match rRs b (vN b 64 (sU b (sU b (sT b 4 (some 0))))) (sN b 64 (sU b (sU b (sT b 4 (some 0))))) with
  | none=>none
  | some (l,o5)=>bif (sH b o5).isNone then none else bif mayV ⟨dec (vU b (sT b 4 (some 0))),dec (vU b (sU b (sT b 4 (some 0)))),l,vH b o5⟩&&decide (putV ⟨dec (vU b (sT b 4 (some 0))),dec (vU b (sU b (sT b 4 (some 0)))),l,vH b o5⟩=b) then some ⟨dec (vU b (sT b 4 (some 0))),dec (vU b (sU b (sT b 4 (some 0)))),l,vH b o5⟩ else none):=rfl
 generalize ho1:sT b 4 (some 0)=o1 at *
 obtain ⟨h7,e7,q7,g7⟩:=f42_eq (N:=N) q5 (by omega)
 have b7:=ca b5 g7
 generalize hcd:dec (vU b o1)=cd at *
 generalize ho2:sU b o1=o2 at *
 have r7:=(w3.chg g5 nR).chg g7 nR
 have s8:h7.store (h2.next,0) [.int .i64 cd]=some (h7.put h2.next (.row (CTy.tos T35 (cd,0,⟨none,0,0,0⟩,z32)) .own)):=r7.store1 (j:=0) (by show 0<35;omega) _
 have r8:=own_put r7 (CTy.tos T35 (cd,0,⟨none,0,0,0⟩,z32))
 have g8:=r7.put (CTy.tos T35 (cd,0,⟨none,0,0,0⟩,z32))
 have q8:=q7.chg g8 nA
 have b8:=cr b7 g8
 generalize h7.put h2.next (.row (CTy.tos T35 (cd,0,⟨none,0,0,0⟩,z32)) .own)=h8 at *
 obtain ⟨h10,e10,q10,g10⟩:=f42_eq (N:=N) q8 (by omega)
 have b10:=ca b8 g10
 generalize hat:dec (vU b o2)=at_ at *
 generalize ho3:sU b o2=o3 at *
 have r10:=r8.chg g10 nR
 have s11:h10.store (h2.next,1) [.int .i64 at_]=some (h10.put h2.next (.row (CTy.tos T35 (cd,at_,⟨none,0,0,0⟩,z32)) .own)):=r10.store1 (j:=1) (by show 1<35;omega) _
 have r11:=own_put r10 (CTy.tos T35 (cd,at_,⟨none,0,0,0⟩,z32))
 have g11:=r10.put (CTy.tos T35 (cd,at_,⟨none,0,0,0⟩,z32))
 have q11:=q10.chg g11 nA
 have b11:=cr b10 g11
 generalize h10.put h2.next (.row (CTy.tos T35 (cd,at_,⟨none,0,0,0⟩,z32)) .own)=h11 at *
 obtain ⟨h13,e13,q13,g13⟩:=f43_eq (N:=N) q11 (lim:=64) (by omega) (by omega)
 have b13:=ca b11 g13
 have hcl:=vN_le b 64 o3
 generalize hcn:vN b 64 o3=cn at *
 generalize ho4:sN b 64 o3=o4 at *
 have r13:=r11.chg g13 nR
 have z35:((AV.int .i64 0)::(.int .i64 0)::(.slice none 0 0 0)::CTy.tos T32 z32)=CTy.tos T35 zero35:=rfl
 have out:∀ {H:Heap} (y:dens T35),Chg [] h1 H→H.store (h.next,0) (CTy.tos T35 y)=some (H.put h.next (.row (CTy.tos T35 y) .own))∧(H.put h.next (.row (CTy.tos T35 y) .own)).cells (h.next,0) 35=some (.agg (CTy.tos T35 y))∧Chg [] h (H.put h.next (.row (CTy.tos T35 y) .own)):=fun {H} y ch=>by
  have o:=w1.chg ch (by simp)
  exact ⟨o.store rfl,cellsN35 (own_put o _),(c1.trans ch).step (o.put _) fun B hB hl=>by rw [List.mem_singleton.1 hB] at hl;omega⟩
 rw [show ((4:Nat):Int)=4 from rfl] at e5
 rw [show ((64:Nat):Int)=64 from rfl] at e13
 rcases f11_loop (N:=N) (h0:=h1) (A:=h1.next) (V:=h2.next) (O:=h.next) (b:=b) hb hN (by omega) (by omega) (by omega) w1 cn N (s:=⟨none,0,0,0⟩) (xs:=[]) (l:=[]) (by omega) (by simpa using hcl) q13 r13 ⟨Fl.nil h13 0 36,rfl,rfl,fun i a1 a2=>absurd a1 (by simp),fun y hy=>absurd hy (by simp),by simp [SL.blk],by simp [SL.blk]⟩ (by simp [SL.blk]) b13 with ⟨s,xs,l,o5,h38,k1,e38,q38,r38,pB,sB,b38⟩ | ⟨h38,k1,e38,oO,b38⟩
 ·rw [List.nil_append] at pB
  obtain ⟨x,h40,hx,e40,q40,g40⟩:=f45_eq (N:=N) q38 (by omega)
  have b40:=ca b38 g40
  have r40:=r38.chg g40 nR
  have pB40:=pB.chg g40 (fun C hC=>.inl (List.mem_singleton.1 hC))
  have hsn:∀ r∈l,r.name.length≤100:=rRs_name k1
  rw [k1] at hG
  simp only at hG
  generalize hsg:vH b o5=sg at *
  generalize ho7:sH b o5=o7 at *
  have s42:h40.store (h2.next,3) (CTy.tos T32 x)=some (h40.put h2.next (.row (CTy.tos T35 (cd,at_,s,x)) .own)):=own_storeN r40 (j:=3) (by show 3+32≤35;omega)
  have r42:=own_put r40 (CTy.tos T35 (cd,at_,s,x))
  have g42:=r40.put (CTy.tos T35 (cd,at_,s,x))
  have q42:=q40.chg g42 nA
  have b42:=cr b40 g42
  have pB42:=pB40.chg g42 (fun C hC=>.inr (.inl (List.mem_singleton.1 hC)))
  generalize h40.put h2.next (.row (CTy.tos T35 (cd,at_,s,x)) .own)=h42 at *
  cases o7 with
  | none=>
   obtain ⟨a',e,q,p1,p2⟩:=q42
   have k2:h42.cell (h1.next,2)=some (.int .i64 e):=Heap.own.cell p1 2
   obtain ⟨u1,u2,u3⟩:=out zero35 b42
   refine .inr ⟨_,by rw [hG];rfl,?_,u3⟩
   unfold f11
   simp only [z35,hh1,hh2,hh3]
   simp only [e5,e7,bind2_some,Nat.zero_add,s8,need_some,e10,s11,e13,e38,bind3_some,eqOut,Nat.beq_refl,cond_true,e40,s42,k2,bindV_some,cast_int,eqI,decide_eq_false p2,Bool.not_false,u1,u2,cast35]
  | some a7=>
   have k2:h42.cell (h1.next,2)=some (.int .i64 0):=by obtain ⟨⟨q,p1⟩,_⟩:=q42;exact Heap.own.cell p1 2
   have R:Rs h42 s xs l:=⟨pB42.len,pB42.fl.sees.1,pB42.fl.all,pB42.eqn,pB42.rcs⟩
   have VCv:VC h42 (cd,at_,s,x) xs ⟨cd,at_,l,sg⟩:=⟨rfl,rfl,R,hx⟩
   have hsh:shortN l:=fun r hr=>by
    obtain ⟨i,hi,rfl⟩:=List.getElem_of_mem hr
    exact ⟨by have:=hsn _ hr;omega,(R.rcs i (by rw [R.eqn];exact hi) hi).sig.len⟩
   obtain ⟨h53,e53,g53⟩:=f8_eq (N:=N) VCv hsh hN
   have hG2:getV b=bif mayV ⟨cd,at_,l,sg⟩&&decide (putV ⟨cd,at_,l,sg⟩=b) then some ⟨cd,at_,l,sg⟩ else none:=hG
   cases hm:mayV ⟨cd,at_,l,sg⟩ with
   | false=>
    rw [hm,cond_false] at e53
    obtain ⟨u1,u2,u3⟩:=out zero35 (b42.trans g53)
    refine .inr ⟨_,by rw [hG2,hm];rfl,?_,u3⟩
    unfold f11
    simp only [z35,hh1,hh2,hh3]
    simp only [e5,e7,bind2_some,Nat.zero_add,s8,need_some,e10,s11,e13,e38,bind3_some,eqOut,Nat.beq_refl,cond_true,e40,s42,k2,bindV_some,cast_int,eqI,decide_true,Bool.not_true,cond_false,cellsN35 r42,cast35,e53,decide_eq_false (show ¬ (1:Int)=0 by omega),Bool.not_false,u1,u2]
   | true=>
    rw [hm,cond_true] at e53
    by_cases hp:putV ⟨cd,at_,l,sg⟩=b
    ·have r53:=r42.chg g53 (by simp)
     obtain ⟨u1,u2,u3⟩:=out (cd,at_,s,x) (b42.trans g53)
     have oh:=w1.chg (b42.trans g53) (by simp)
     have cO:=oh.put (CTy.tos T35 (cd,at_,s,x))
     have hnO:∀ {B:Nat},h1.next≤B→B ∉ [h.next]:=fun {B} q m=>by rw [List.mem_singleton.1 m] at q;omega
     refine .inl ⟨⟨cd,at_,l,sg⟩,(cd,at_,s,x),xs,_,by rw [hG2,hm,decide_eq_true hp];rfl,?_,⟨rfl,rfl,⟨R.len,R.sz,((R.chg g53).sees).chg cO (fun B hB=>hnO (sB B hB)),R.eqn,fun i a1 a2=>((R.rcs i a1 a2).chg g53).chgM cO (fun B hB=>hnO (pB42.bk _ (List.getElem_mem a1) B hB).2.2.2)⟩,hx⟩,u3⟩
     unfold f11
     simp only [z35,hh1,hh2,hh3]
     simp only [e5,e7,bind2_some,Nat.zero_add,s8,need_some,e10,s11,e13,e38,bind3_some,eqOut,Nat.beq_refl,cond_true,e40,s42,k2,bindV_some,cast_int,eqI,decide_true,Bool.not_true,cond_false,cellsN35 r42,cast35,e53,eqB,decide_eq_true hp,cellsN35 r53,u1,u2]
    ·obtain ⟨u1,u2,u3⟩:=out zero35 (b42.trans g53)
     refine .inr ⟨_,by rw [hG2,hm,decide_eq_false hp];rfl,?_,u3⟩
     unfold f11
     simp only [z35,hh1,hh2,hh3]
     simp only [e5,e7,bind2_some,Nat.zero_add,s8,need_some,e10,s11,e13,e38,bind3_some,eqOut,Nat.beq_refl,cond_true,e40,s42,k2,bindV_some,cast_int,eqI,decide_true,Bool.not_true,cond_false,cellsN35 r42,cast35,e53,eqB,decide_eq_false hp,Bool.not_false,u1,u2]
 ·refine .inr ⟨h38,by rw [hG,k1],?_,c1.step b38 fun B hB hl=>by rw [List.mem_singleton.1 hB] at hl;omega⟩
  unfold f11
  simp only [z35,hh1,hh2,hh3]
  simp only [e5,e7,bind2_some,Nat.zero_add,s8,need_some,e10,s11,e13,e38,bind3_some,eqOut,cond_false,cellsN35 oO,bindV_some,cast35]
end
end Vp
namespace Vp
section
variable {N:Nat} {h:Heap} {b c:Bs} {s t:SL}
theorem f40_eq (p:One h s (ofBytes b)) (q:One h t (ofBytes c)):f40 N s t h=some (decide (b=c),h):=by
 unfold f40
 simp only [conv_one p,conv_one q,bindV_some,cast_str,eqB]
theorem as137 (A:Nat):assertA E (.iface 137 (.ptr (some (A,0)))) 137 true=some (.tuple [.ptr (some (A,0)),.bool true]):=by rfl
theorem f9_fault {v:AV} {c a x y:Int} (p:FaultAt h v c a) (hN:1≤N):f9 N v x y h=some (decide (c=x)&&decide (a=y),h):=by
 obtain ⟨A,rfl,o⟩:=p
 obtain ⟨N,rfl⟩:∃ N',N=N'+1:=⟨N-1,by omega⟩
 have k0:h.cell (A,0)=some (.int .i64 c):=o.cell 0
 have k1:h.cell (A,1)=some (.int .i64 a):=o.cell 1
 have k2:h.cell (A,2)=some (.iface 22 (.int .i64 c)):=o.cell 2
 have hl:f38_l1 (N+1) (N+1) (some (A,0)) c a 0 h=some (.exit 0,(c,a,()),h):=by
  rw [f38_l1_succ]
  unfold f38_l1_b
  simp only [ltI,decide_eq_true (show (0:Int)<200 by omega),cond_true,need_some,Nat.zero_add,k2]
  rfl
 have e:f38 (N+1) (.iface 137 (.ptr (some (A,0)))) h=some ((c,a,()),h):=by
  unfold f38
  simp only [nnE _ ⟨A,rfl⟩,bindV_some,cast_bool,cond_false,as137]
  have ct:∀ {β:Type} (p:Option (Nat×Nat)) (q:Bool) (K:(Option (Nat×Nat)×Bool×Unit)→Option β),(Ty.tup [VTy.one CTy.ptr,VTy.one CTy.bool]).cast (AV.tuple [AV.ptr p,AV.bool q]) K=K (p,q,()):=fun p q K=>rfl
  simp only [ct,Bool.not_true,cond_false,Option.isNone_some,need_some,Nat.zero_add,k0,k1,bindV_some,cast_int,hl,bind3_some]
 unfold f9
 simp only [e,bind2_some,eqI]
 cases decide (c=x) <;> rfl
theorem f9_nil {x y:Int}:f9 N AV.nilIface x y h=some (decide (0=x)&&decide (0=y),h):=by
 have e:f38 N AV.nilIface h=some ((0,0,()),h):=by
  unfold f38
  simp only [nilE,bindV_some,cast_bool,cond_true]
 unfold f9
 simp only [e,bind2_some,eqI]
 cases decide ((0:Int)=x) <;> rfl
end
end Vp
namespace Ai
theorem Chg.new {h0 h h':Heap} {M:List Nat} (x:Chg [] h0 h) (y:Chg M h h') (hM:∀ C∈M,h0.next≤C):Chg [] h0 h':=x.step y fun B hB hl=>by have:=hM B hB;omega
end Ai
namespace Vp
abbrev PS:=Nat×Bool
def nx (s:PS):Option Nat→PS
 | some a=>(a,s.2)
 | none=>(s.1,true)
theorem su_none {b:Bs} {a:Nat} (h:rU b a=none):sU b (some a)=none∧vU b (some a)=0:=by unfold sU vU;simp only [h];exact ⟨trivial,trivial⟩
theorem su_some {b:Bs} {a v c:Nat} (h:rU b a=some (v,c)):sU b (some a)=some c∧vU b (some a)=v:=by unfold sU vU;simp only [h];exact ⟨trivial,trivial⟩
theorem rT_v (b:Bs) (a lim:Nat):rT b a lim=(sT b lim (some a)).map fun c=>(vT b lim (some a),c):=by
 unfold rT sT vT
 cases h:rU b a with
 | none=>rw [(su_none h).1];rfl
 | some p=>
  obtain ⟨v,c⟩:=p
  rw [(su_some h).1,(su_some h).2]
  simp only
  cases decide (lim<v) <;> cases decide (b.length-c<v) <;> rfl
theorem rI_v (b:Bs) (a:Nat):rI b a=(sU b (some a)).map fun c=>(dec (vU b (some a)),c):=by
 unfold rI
 cases h:rU b a with
 | none=>rw [(su_none h).1];rfl
 | some p=>rw [(su_some h).1,(su_some h).2];rfl
theorem rN_v (b:Bs) (a lim:Nat):rN b a lim=(sN b lim (some a)).map fun c=>(vN b lim (some a),c):=by
 unfold rN sN vN
 cases h:rU b a with
 | none=>rw [(su_none h).1];rfl
 | some p=>
  obtain ⟨v,c⟩:=p
  rw [(su_some h).1,(su_some h).2]
  simp only
  cases decide (lim<v) <;> rfl
theorem rH_v (b:Bs) (a:Nat):rH b a=(sH b (some a)).map fun c=>(vH b (some a),c):=by
 unfold rH sH vH
 simp only
 cases decide (b.length-a<32) <;> rfl
structure RF (h:Heap) (A P F:Nat) (b:Bs) (s:PS):Prop where
 rq:RQ h A b s.1
 p:h.own P [.ptr (some (A,0))]
 f:h.own F [.bool s.2]
 pa:A<P
 fa:P<F
section
variable {N:Nat} {h h':Heap} {A P F:Nat} {b:Bs} {s:PS}
theorem RF.chg {M:List Nat} (p:RF h A P F b s) (c:Chg M h h') (hM:∀ C∈M,F<C):RF h' A P F b s:=by
 have pa:=p.pa
 have fa:=p.fa
 exact ⟨p.rq.chgM c (fun C hC=>by have:=hM C hC;omega),p.p.chg c (fun e=>by have:=hM P e;omega),p.f.chg c (fun e=>by have:=hM F e;omega),pa,fa⟩
theorem RF.flag (p:RF h A P F b s) (v:Bool):∃ h',h.store (F,0) [.bool v]=some h'∧RF h' A P F b (s.1,v)∧Chg [F] h h':=by
 have pa:=p.pa
 have fa:=p.fa
 have c:=p.f.put [.bool v]
 exact ⟨_,p.f.store rfl,⟨p.rq.chgM c (fun C hC=>by rw [List.mem_singleton.1 hC];omega),p.p.chg c (by simp;omega),own_put p.f _,pa,fa⟩,c⟩
theorem RF.read {a:Nat} (p:RF h A P F b s) (q:RQ h' A b a) (c:Chg [A] h h'):RF h' A P F b (a,s.2):=by
 have pa:=p.pa
 have fa:=p.fa
 exact ⟨q,p.p.chg c (by simp;omega),p.f.chg c (by simp;omega),pa,fa⟩
theorem RF.kp (p:RF h A P F b s):h.cell (P,0)=some (.ptr (some (A,0))):=p.p.cell 0
theorem RF.kf (p:RF h A P F b s):h.cell (F,0)=some (.bool s.2):=p.f.cell 0
theorem RF.mark (p:RF h A P F b s) {e:AV} {bad:Bool} (he:∀ t,binA E .neq 34 (.tmp t) (.const .nilIface) e AV.nilIface=some (.bool bad)) :
  ∃ h',RF h' A P F b (s.1,s.2||bad)∧Chg [F] h h'∧∀ {β:Type} (t:Nat) (K:Heap→Option β),(bindV (.val (.one .bool)) (h.cell (F,0)) fun (x6:Bool)=>bif x6 then need (h.store (F,0) [.bool true]) K else bindV (.val (.one .bool)) (binA E .neq 34 (.tmp t) (.const .nilIface) e AV.nilIface) fun (x9:Bool)=>need (h.store (F,0) [.bool x9]) K)=K h':=by
 have kf:=p.kf
 obtain ⟨h',e1,e2,e3⟩:=p.flag (s.2||bad)
 refine ⟨h',e2,e3,fun t K=>?_⟩
 cases hs:s.2 with
 | true=>
  rw [hs] at e1 kf
  rw [Bool.true_or] at e1
  simp only [kf,bindV_some,cast_bool,cond_true,e1,need_some]
 | false=>
  rw [hs] at e1 kf
  rw [Bool.false_or] at e1
  simp only [kf,bindV_some,cast_bool,cond_false,he,e1,need_some]
theorem f112_eq (p:RF h A P F b s) (hN:20≤N):∃ h',f112 N (some (P,0)) (some (F,0)) h=some (vT b 32 (some s.1),h')∧RF h' A P F b (nx s (sT b 32 (some s.1)))∧Chg [A,F] h h':=by
 have kp:=p.kp
 rcases f66_eq (N:=N) p.rq (lim:=32) (by omega) hN with ⟨t,a,h4,e1,e2,q4,c4⟩ | ⟨e,h4,e1,e2,en,q4,c4⟩
 ·rw [rT_v] at e1
  obtain ⟨a',hs,ha⟩:=Option.map_eq_some_iff.1 e1
  cases ha
  obtain ⟨h5,m1,m2,m3⟩:=(p.read q4 c4).mark (e:=AV.nilIface) (bad:=false) (fun t=>nilN t)
  refine ⟨h5,?_,by rw [hs];simpa [nx] using m1,(c4.mono (by simp)).trans (m2.mono (by simp))⟩
  rw [show ((32:Nat):Int)=32 from rfl] at e2
  unfold f112
  simp only [need_some,kp,bindV_some,cast_ptr,e2,bind2_some]
  rw [m3 12]
 ·rw [rT_v] at e1
  have hs:sT b 32 (some s.1)=none:=Option.map_eq_none_iff.1 e1
  have hv:vT b 32 (some s.1)=[]:=by
   unfold sT at hs;unfold vT
   cases hq:sU b (some s.1) with
   | none=>rfl
   | some a=>
    rw [hq] at hs
    revert hs
    simp only
    cases decide (32<vU b (some s.1)) <;> cases decide (b.length-a<vU b (some s.1)) <;> simp
  obtain ⟨h5,m1,m2,m3⟩:=(p.read q4 c4).mark (bad:=true) (fun t=>nnN t en)
  refine ⟨h5,?_,by rw [hs];simpa [nx] using m1,(c4.mono (by simp)).trans (m2.mono (by simp))⟩
  rw [show ((32:Nat):Int)=32 from rfl] at e2
  unfold f112
  simp only [need_some,kp,bindV_some,cast_ptr,e2,bind2_some]
  rw [m3 12,hv]
theorem f111_eq (p:RF h A P F b s) (hN:20≤N):∃ h',f111 N (some (P,0)) (some (F,0)) h=some (dec (vU b (some s.1)),h')∧RF h' A P F b (nx s (sU b (some s.1)))∧Chg [A,F] h h':=by
 have kp:=p.kp
 rcases f67_eq (N:=N) p.rq hN with ⟨t,a,h4,e1,e2,q4,c4⟩ | ⟨e,h4,e1,e2,en,q4,c4⟩
 ·rw [rI_v] at e1
  obtain ⟨a',hs,ha⟩:=Option.map_eq_some_iff.1 e1
  cases ha
  obtain ⟨h5,m1,m2,m3⟩:=(p.read q4 c4).mark (e:=AV.nilIface) (bad:=false) (fun t=>nilN t)
  refine ⟨h5,?_,by rw [hs];simpa [nx] using m1,(c4.mono (by simp)).trans (m2.mono (by simp))⟩
  unfold f111
  simp only [need_some,kp,bindV_some,cast_ptr,e2,bind2_some]
  rw [m3 12]
 ·rw [rI_v] at e1
  have hs:sU b (some s.1)=none:=Option.map_eq_none_iff.1 e1
  have hv:dec (vU b (some s.1))=0:=by rw [vU_none hs];rfl
  obtain ⟨h5,m1,m2,m3⟩:=(p.read q4 c4).mark (bad:=true) (fun t=>nnN t en)
  refine ⟨h5,?_,by rw [hs];simpa [nx] using m1,(c4.mono (by simp)).trans (m2.mono (by simp))⟩
  unfold f111
  simp only [need_some,kp,bindV_some,cast_ptr,e2,bind2_some]
  rw [m3 12,hv]
end
end Vp
namespace Vp
def pU (b:Bs) (s:PS):PS:=nx s (sU b (some s.1))
def pDs (b:Bs):Nat→PS→List Dg×PS
 | 0,s=>([],s)
 | k+1,s=>bif s.2 then ([],s) else
  let s1:=pU b s
  let s2:=pU b s1
  let s3:=pU b s2
  ((dec (vU b (some s.1)),dec (vU b (some s1.1)),dec (vU b (some s2.1)),dec (vU b (some s3.1)),())::(pDs b k (pU b s3)).1,(pDs b k (pU b s3)).2)
section
variable {N:Nat} {h0:Heap} {A P F R:Nat} {b:Bs}
theorem f69_loop {n:Bs} {c a:Int} {z:dens T32} {v0:SL} {v2:Option (Nat×Nat)} {T:Nat} (hT:T≤1000) (hN:40≤N) (hFR:F<R) (hA0:h0.next≤A):∀ (k i M:Nat) {h:Heap} {s:PS} {sl:SL} {acc:List Dg},i+k=T→k<M→acc.length=i→RF h A P F b s→h.own R (CTy.tos T36 (n,c,a,sl,z))→Fl h sl 4 (flatD acc)→sl.len=acc.length→(∀ B,sl.blk=some B→R<B)→Chg [] h0 h→
  ∃ s' h',f69_l1 N M v0 v2 (some (P,0)) (some (F,0)) (some (P,0),some (F,0),()) (some (R,0)) (T:Int) (i:Int) h=some (.exit 0,(v0,v2,some (P,0),some (F,0),some (R,0),()),h')∧RF h' A P F b (pDs b k s).2∧h'.own R (CTy.tos T36 (n,c,a,s',z))∧Fl h' s' 4 (flatD (acc++(pDs b k s).1))∧s'.len=(acc++(pDs b k s).1).length∧(∀ B,s'.blk=some B→R<B)∧Chg [] h0 h':=by
 intro k
 induction k with
 | zero=>
  intro i M h s sl acc hi hM hl p oR pF hlen sB ch
  obtain ⟨M,rfl⟩:∃ M',M=M'+1:=⟨M-1,by omega⟩
  refine ⟨sl,h,?_,p,oR,by simpa [pDs] using pF,by simpa [pDs] using hlen,sB,ch⟩
  rw [f69_l1_succ]
  unfold f69_l1_b
  simp only [ltI,decide_eq_false (show ¬ (i:Int)<(T:Int) by omega),cond_false]
 | succ k ih=>
  intro i M h s sl acc hi hM hl p oR pF hlen sB ch
  obtain ⟨M,rfl⟩:∃ M',M=M'+1:=⟨M-1,by omega⟩
  have dk:ltInt (i:Int) (T:Int)=true:=by rw [ltI];exact decide_eq_true (by omega)
  have kf:=p.kf
  obtain ⟨at_,bd⟩:=s
  cases bd with
  | true=>
   refine ⟨sl,h,?_,by simpa [pDs] using p,oR,by simpa [pDs] using pF,by simpa [pDs] using hlen,sB,ch⟩
   rw [f69_l1_succ]
   unfold f69_l1_b
   simp only [dk,cond_true,need_some,kf,bindV_some,cast_bool,Bool.not_true,cond_false]
  | false=>
   have pa:=p.pa
   have fa:=p.fa
   have hRl:=oR.2
   have hFl:=p.f.2
   have nR:R ∉ [A,F]:=by simp;omega
   have ca:∀ {H H':Heap},Chg [] h0 H→Chg [A,F] H H'→Chg [] h0 H':=fun x y=>x.new y (by simp;omega)
   obtain ⟨h44,e1,q1,g1⟩:=f111_eq (N:=N) p (by omega)
   have hs1:nx (at_,false) (sU b (some at_))=pU b (at_,false):=rfl
   simp only [hs1] at q1
   generalize hx1:dec (vU b (some at_))=x1 at *
   generalize hp1:pU b (at_,false)=s1 at *
   have b1:=ca ch g1
   have r1:=oR.chg g1 nR
   have l1:=g1.next
   have f1:Fl h44 sl 4 (flatD acc):=pF.chg g1 (fun B hB hm=>by have:=sB B hB;simp at hm;omega)
   have c0:=chg_push h44 (.row [(AV.int .i64 0),(.int .i64 0),(.int .i64 0),(.int .i64 0)] .own)
   have w0:=own_push h44 [(AV.int .i64 0),(.int .i64 0),(.int .i64 0),(.int .i64 0)]
   have n45:(h44.push (.row [(AV.int .i64 0),(.int .i64 0),(.int .i64 0),(.int .i64 0)] .own)).next=h44.next+1:=rfl
   generalize hh45:h44.push (.row [(AV.int .i64 0),(.int .i64 0),(.int .i64 0),(.int .i64 0)] .own)=h45 at *
   generalize hD:h44.next=D at *
   have nD:D ∉ [A,F]:=by simp;omega
   have cd:∀ {H H':Heap},Chg [] h44 H→Chg [D] H H'→Chg [] h44 H':=fun x y=>x.new y (by simp;omega)
   have caf:∀ {H H':Heap},Chg [A,F] h44 H→Chg [A,F] H H'→Chg [A,F] h44 H':=fun x y=>x.trans y
   have cdd:∀ {H H':Heap},Chg [A,F] h44 H→Chg [D] H H'→Chg [A,F] h44 H':=fun x y=>x.step y fun B hB hl=>by rw [List.mem_singleton.1 hB] at hl;omega
   have s0:h45.store (D,0) [(AV.int .i64 x1),(.int .i64 0),(.int .i64 0),(.int .i64 0)]=some (h45.put D (.row [(AV.int .i64 x1),(.int .i64 0),(.int .i64 0),(.int .i64 0)] .own)):=w0.store rfl
   have w1:=own_put w0 [(AV.int .i64 x1),(.int .i64 0),(.int .i64 0),(.int .i64 0)]
   have t1:=cdd (c0.mono (by simp)) (w0.put [(AV.int .i64 x1),(.int .i64 0),(.int .i64 0),(.int .i64 0)])
   have q1':=(q1.chg c0 (by simp)).chg (w0.put [(AV.int .i64 x1),(.int .i64 0),(.int .i64 0),(.int .i64 0)]) (by simp;omega)
   generalize h45.put D (.row [(AV.int .i64 x1),(.int .i64 0),(.int .i64 0),(.int .i64 0)] .own)=h46 at *
   obtain ⟨h48,e2,q2,g2⟩:=f111_eq (N:=N) q1' (by omega)
   generalize hx2:dec (vU b (some s1.1))=x2 at *
   have hs2:nx s1 (sU b (some s1.1))=pU b s1:=rfl
   rw [hs2] at q2
   generalize hp2:pU b s1=s2 at *
   have w2:=w1.chg g2 nD
   have s2':h48.store (D,1) [.int .i64 x2]=some (h48.put D (.row [(AV.int .i64 x1),(.int .i64 x2),(.int .i64 0),(.int .i64 0)] .own)):=w2.store1 (j:=1) (by simp) _
   have w3:=own_put w2 [(AV.int .i64 x1),(.int .i64 x2),(.int .i64 0),(.int .i64 0)]
   have t2:=cdd (caf t1 g2) (w2.put [(AV.int .i64 x1),(.int .i64 x2),(.int .i64 0),(.int .i64 0)])
   have q2':=q2.chg (w2.put [(AV.int .i64 x1),(.int .i64 x2),(.int .i64 0),(.int .i64 0)]) (by simp;omega)
   generalize h48.put D (.row [(AV.int .i64 x1),(.int .i64 x2),(.int .i64 0),(.int .i64 0)] .own)=h49 at *
   obtain ⟨h51,e3,q3,g3⟩:=f111_eq (N:=N) q2' (by omega)
   generalize hx3:dec (vU b (some s2.1))=x3 at *
   have hs3:nx s2 (sU b (some s2.1))=pU b s2:=rfl
   rw [hs3] at q3
   generalize hp3:pU b s2=s3 at *
   have w4:=w3.chg g3 nD
   have s3':h51.store (D,2) [.int .i64 x3]=some (h51.put D (.row [(AV.int .i64 x1),(.int .i64 x2),(.int .i64 x3),(.int .i64 0)] .own)):=w4.store1 (j:=2) (by simp) _
   have w5:=own_put w4 [(AV.int .i64 x1),(.int .i64 x2),(.int .i64 x3),(.int .i64 0)]
   have t3:=cdd (caf t2 g3) (w4.put [(AV.int .i64 x1),(.int .i64 x2),(.int .i64 x3),(.int .i64 0)])
   have q3':=q3.chg (w4.put [(AV.int .i64 x1),(.int .i64 x2),(.int .i64 x3),(.int .i64 0)]) (by simp;omega)
   generalize h51.put D (.row [(AV.int .i64 x1),(.int .i64 x2),(.int .i64 x3),(.int .i64 0)] .own)=h52 at *
   obtain ⟨h54,e4,q4,g4⟩:=f111_eq (N:=N) q3' (by omega)
   generalize hx4:dec (vU b (some s3.1))=x4 at *
   have hs4:nx s3 (sU b (some s3.1))=pU b s3:=rfl
   rw [hs4] at q4
   generalize hp4:pU b s3=s4 at *
   have w6:=w5.chg g4 nD
   have s4':h54.store (D,3) [.int .i64 x4]=some (h54.put D (.row [(AV.int .i64 x1),(.int .i64 x2),(.int .i64 x3),(.int .i64 x4)] .own)):=w6.store1 (j:=3) (by simp) _
   have w7:=own_put w6 [(AV.int .i64 x1),(.int .i64 x2),(.int .i64 x3),(.int .i64 x4)]
   have t4:=cdd (caf t3 g4) (w6.put [(AV.int .i64 x1),(.int .i64 x2),(.int .i64 x3),(.int .i64 x4)])
   have q4':=q4.chg (w6.put [(AV.int .i64 x1),(.int .i64 x2),(.int .i64 x3),(.int .i64 x4)]) (by simp;omega)
   generalize h54.put D (.row [(AV.int .i64 x1),(.int .i64 x2),(.int .i64 x3),(.int .i64 x4)] .own)=h55 at *
   have b4:=ca b1 t4
   have oR':=r1.chg t4 nR
   have pF':=f1.chg t4 (fun B hB hm=>by have:=sB B hB;simp at hm;omega)
   have kR:=(cells36 oR').c3
   have kD:h55.cells (D,0) 4=some (.agg (dgc (x1,x2,x3,x4,()))):=by rw [w7.cells (j:=0) (m:=4) (by simp)];rfl
   obtain ⟨s',h61,a1,a2,a3,a4,a5⟩:=append_fl appDs (by omega) pF' (dgc_single (x1,x2,x3,x4,())) rfl (by rw [hlen];omega)
   have nx4:=t4.next
   have sBl:∀ B∈sl.blk.toList,R<B:=fun B hB=>by
    cases hb:sl.blk with
    | none=>rw [hb] at hB;cases hB
    | some C=>rw [hb] at hB;simp at hB;rw [hB];exact sB C hb
   have sB':∀ B,s'.blk=some B→R<B:=fun B hB=>by
    rcases a5 B hB with q | q
    ·exact sB B q
    ·omega
   have oR2:=oR'.chg a4 (fun hm=>by have:=sBl R hm;omega)
   have s5:h61.store (R,3) [SL.av s']=some (h61.put R (.row (CTy.tos T36 (n,c,a,s',z)) .own)):=oR2.store1 (j:=3) (by show 3<36;omega) _
   have oR3:=own_put oR2 (CTy.tos T36 (n,c,a,s',z))
   have cR:=oR2.put (CTy.tos T36 (n,c,a,s',z))
   have q5:=(q4'.chg a4 (fun C hC=>by have:=sBl C hC;omega)).chg cR (by simpa using hFR)
   have a2':=a2.chg cR (fun B hB hm=>by have:=sB' B hB;simp at hm;omega)
   have ch':Chg [] h0 (h61.put R (.row (CTy.tos T36 (n,c,a,s',z)) .own)):=(b4.new a4 (fun C hC=>by have:=sBl C hC;omega)).new cR (by simp;omega)
   generalize h61.put R (.row (CTy.tos T36 (n,c,a,s',z)) .own)=h63 at *
   have hacc:flatD acc++dgc (x1,x2,x3,x4,())=flatD (acc++[(x1,x2,x3,x4,())]):=by
    rw [flatD_app];simp [flatD]
   rw [hacc] at a2'
   obtain ⟨s6,h6,z1,z2,z3,z4,z5,z6,z7⟩:=ih (i+1) M (acc:=acc++[(x1,x2,x3,x4,())]) (by omega) (by omega) (by rw [List.length_append,List.length_singleton];omega) q5 oR3 a2' (by rw [a3,hlen,List.length_append];rfl) sB' ch'
   have hr:pDs b (k+1) (at_,false)=((x1,x2,x3,x4,())::(pDs b k s4).1,(pDs b k s4).2):=by
    rw [pDs]
    simp only [cond_false,hp1,hp2,hp3,hp4,hx1,hx2,hx3,hx4]
   have hap:acc++[(x1,x2,x3,x4,())]++(pDs b k s4).1=acc++(pDs b (k+1) (at_,false)).1:=by rw [hr,List.append_assoc];rfl
   rw [hap] at z4 z5
   refine ⟨s6,h6,?_,by rw [hr];exact z2,z3,z4,z5,z6,z7⟩
   have wk:wrapA .i64 ((i:Int)+1)=((i+1:Nat):Int):=by rw [wrapA_small (by omega) (by omega)];omega
   have hd4:[(AV.int .i64 x1),(.int .i64 x2),(.int .i64 x3),(.int .i64 x4)]=dgc (x1,x2,x3,x4,()):=rfl
   rw [f69_l1_succ]
   unfold f69_l1_b
   simp only [dk,cond_true,need_some,kf,bindV_some,cast_bool,Bool.not_false,e1,bind2_some,hh45,hD,s0,e2,Nat.zero_add,s2',e3,s3',e4,s4',kR,cast_slice,kD,cast_dg]
   rw [hd4,a1]
   simp only [bindT_some,cast_slice]
   rw [show [AV.slice s'.a s'.len s'.cap s'.sz]=[SL.av s'] from rfl,s5]
   simp only [need_some,wk]
   exact z1
end
end Vp
namespace Vp
def fieldsS (b:Bs) (s1':PS):Rc×PS:=
 let s2:=nx s1' (sT b 32 (some s1'.1))
 let s3:=pU b s2
 let s4:=pU b s3
 let s5:=nx s4 (sN b 1000 (some s4.1))
 let q:=pDs b (vN b 1000 (some s4.1)) s5
 (⟨vT b 32 (some s1'.1),dec (vU b (some s2.1)),dec (vU b (some s3.1)),q.1,vH b (some q.2.1)⟩,nx q.2 (sH b (some q.2.1)))
def fieldsP (b:Bs):Rc×PS:=fieldsS b ((nx (0,false) (sT b 32 (some 0))).1,bif decide (vT b 32 (some 0)=rec_) then (nx (0,false) (sT b 32 (some 0))).2 else true)
def getP (b:Bs):Option Rc:=bif (fieldsP b).2.2 then none else bif mayR (fieldsP b).1&&decide (putR (fieldsP b).1=b) then some (fieldsP b).1 else none
section
variable {N:Nat} {h h':Heap} {A P F:Nat} {b:Bs} {s:PS}
theorem f68_rf (p:RF h A P F b s) {lim:Nat} (hlim:lim≤10000000) (hN:20≤N):∃ e bad h',f68 N (some (A,0)) (lim:Int) h=some ((((vN b lim (some s.1):Nat):Int),e,()),h')∧(∀ t,binA E .neq 34 (.tmp t) (.const .nilIface) e AV.nilIface=some (.bool bad))∧RF h' A P F b ((nx s (sN b lim (some s.1))).1,s.2)∧(s.2||bad)=(nx s (sN b lim (some s.1))).2∧Chg [A] h h':=by
 rcases f68_eq (N:=N) p.rq hlim hN with ⟨t,a,h4,e1,hl,e2,q4,c4⟩ | ⟨e,h4,e1,e2,en,q4,c4⟩
 ·rw [rN_v] at e1
  obtain ⟨a',hs,ha⟩:=Option.map_eq_some_iff.1 e1
  cases ha
  exact ⟨_,false,h4,e2,fun t=>nilN t,by rw [hs];exact p.read q4 c4,by rw [hs,Bool.or_false];rfl,c4⟩
 ·rw [rN_v] at e1
  have hs:sN b lim (some s.1)=none:=Option.map_eq_none_iff.1 e1
  have hv:vN b lim (some s.1)=0:=by
   unfold sN at hs;unfold vN
   cases hq:sU b (some s.1) with
   | none=>rfl
   | some a=>
    rw [hq] at hs
    revert hs
    simp only
    cases decide (lim<vU b (some s.1)) <;> simp
  exact ⟨_,true,h4,by rw [hv];exact e2,fun t=>nnN t en,by rw [hs];exact p.read q4 c4,by rw [hs,Bool.or_true];rfl,c4⟩
theorem f70_rf (p:RF h A P F b s):∃ x e bad h',HB x (vH b (some s.1))∧f70 N (some (A,0)) h=some ((x,e,()),h')∧(∀ t,binA E .neq 34 (.tmp t) (.const .nilIface) e AV.nilIface=some (.bool bad))∧RF h' A P F b ((nx s (sH b (some s.1))).1,s.2)∧(s.2||bad)=(nx s (sH b (some s.1))).2∧Chg [A] h h':=by
 rcases f70_eq (N:=N) p.rq with ⟨x,y,a,h4,e1,hx,e2,q4,c4⟩ | ⟨e,h4,e1,e2,en,q4,c4⟩
 ·rw [rH_v] at e1
  obtain ⟨a',hs,ha⟩:=Option.map_eq_some_iff.1 e1
  cases ha
  exact ⟨x,_,false,h4,hx,e2,fun t=>nilN t,by rw [hs];exact p.read q4 c4,by rw [hs,Bool.or_false];rfl,c4⟩
 ·rw [rH_v] at e1
  have hs:sH b (some s.1)=none:=Option.map_eq_none_iff.1 e1
  have hv:vH b (some s.1)=zerosH:=by
   unfold sH at hs;unfold vH
   revert hs
   simp only
   cases decide (b.length-s.1<32) <;> simp
  exact ⟨z32,e,true,h4,by rw [hv];exact HB.zero,e2,fun t=>nnN t en,by rw [hs];exact p.read q4 c4,by rw [hs,Bool.or_true];rfl,c4⟩
theorem f69_eq {a0:SL} (x0:One h a0 (ofBytes b)) (hb:b.length≤10000000) (hN:3000≤N) :
  (∃ r x h',getP b=some r∧f69 N a0 h=some ((x,AV.nilIface,()),h')∧RC h' x r∧(∀ B,x.2.2.2.1.blk=some B→h.next≤B)∧Chg [] h h')∨
  (∃ e h',getP b=none∧f69 N a0 h=some ((zero36,e,()),h')∧NN e∧Chg [] h h'):=by
 have c1:=chg_push h (.row (CTy.tos T36 zero36) .own)
 have w1:=own36 h zero36
 have n1:(h.push (.row (CTy.tos T36 zero36) .own)).next=h.next+1:=rfl
 generalize hh1:h.push (.row (CTy.tos T36 zero36) .own)=h1 at *
 obtain ⟨A,h3,e3,q3,c3,hA⟩:=f65_eq (N:=N) (One.chgM x0 c1 (by simp)) hb
 have hAl:A<h3.next:=by obtain ⟨s,p1,_⟩:=q3;exact p1.2
 have c4:=chg_push h3 (.row [AV.ptr none] .own)
 have w4:=own_push h3 [AV.ptr none]
 have n4:(h3.push (.row [AV.ptr none] .own)).next=h3.next+1:=rfl
 generalize hh4:h3.push (.row [AV.ptr none] .own)=h4 at *
 generalize hP:h3.next=P at *
 have t5:h4.store (P,0) [AV.ptr (some (A,0))]=some (h4.put P (.row [AV.ptr (some (A,0))] .own)):=w4.store rfl
 have w5:=own_put w4 [AV.ptr (some (A,0))]
 have c5:=w4.put [AV.ptr (some (A,0))]
 generalize h4.put P (.row [AV.ptr (some (A,0))] .own)=h5 at *
 have n5:=c5.next
 have c6:=chg_push h5 (.row [AV.bool false] .own)
 have w6:=own_push h5 [AV.bool false]
 have n6:(h5.push (.row [AV.bool false] .own)).next=h5.next+1:=rfl
 generalize hh6:h5.push (.row [AV.bool false] .own)=h6 at *
 generalize hF:h5.next=F at *
 have t7:h6.store (F,0) [AV.bool false]=some (h6.put F (.row [AV.bool false] .own)):=w6.store rfl
 have w7:=own_put w6 [AV.bool false]
 have c7:=w6.put [AV.bool false]
 generalize h6.put F (.row [AV.bool false] .own)=h7 at *
 have hAP:A<P:=hAl
 have hPF:P<F:=by omega
 have hPr:h1.next≤P:=by have:=c3.next;omega
 have q7:RF h7 A P F b (0,false):=⟨(((q3.chg c4).chgM c5 (by simp;omega)).chg c6).chgM c7 (by simp;omega),(w5.chg c6 (by simp)).chg c7 (by simp;omega),w7,hAP,hPF⟩
 have b7:Chg [] h1 h7:=(((c3.trans c4).new c5 (by simp;omega)).trans c6).new c7 (by simp;omega)
 have ca:∀ {H H':Heap},Chg [] h1 H→Chg [A,F] H H'→Chg [] h1 H':=fun x y=>x.new y (by simp;omega)
 have cA:∀ {H H':Heap},Chg [] h1 H→Chg [A] H H'→Chg [] h1 H':=fun x y=>x.new y (by simp;omega)
 have cF:∀ {H H':Heap},Chg [] h1 H→Chg [F] H H'→Chg [] h1 H':=fun x y=>x.new y (by simp;omega)
 obtain ⟨h9,e9,q9,g9⟩:=f112_eq (N:=N) q7 (by omega)
 have b9:=ca b7 g9
 simp only at e9 q9
 generalize ho1:nx (0,false) (sT b 32 (some 0))=s1 at *
 obtain ⟨h15,e15,q15,g15⟩:=q9.flag (bif decide (vT b 32 (some 0)=rec_) then s1.2 else true)
 have b15:=cF b9 g15
 have hb15:∀ {α:Type} (w:α),(bif !decide (vT b 32 (some 0)=[85,82,69,67]) then need (h9.store (F,0) [.bool true]) fun h11=>some (w,h11) else bindV (.val (.one .bool)) (h9.cell (F,0)) fun (x12:Bool)=>need (h9.store (F,0) [.bool x12]) fun h13=>some (w,h13))=some (w,h15):=fun {α} w=>by
  have hc:decide (vT b 32 (some 0)=[85,82,69,67])=decide (vT b 32 (some 0)=rec_):=rfl
  rw [hc]
  cases hd:decide (vT b 32 (some 0)=rec_) with
  | false=>
   rw [hd,cond_false] at e15
   simp only [Bool.not_false,cond_true,e15,need_some]
  | true=>
   rw [hd,cond_true] at e15
   simp only [Bool.not_true,cond_false,q9.kf,bindV_some,cast_bool,e15,need_some]
 generalize ho1':((s1.1,bif decide (vT b 32 (some 0)=rec_) then s1.2 else true):PS)=s1' at *
 have n15:=b15.next
 have c16:=chg_push h15 (.row (CTy.tos T36 zero36) .own)
 have w16:=own36 h15 zero36
 generalize hh16:h15.push (.row (CTy.tos T36 zero36) .own)=h16 at *
 have q16:=q15.chg c16 (by simp)
 have b16:=b15.trans c16
 have hFl:F<h15.next:=q15.f.2
 generalize hR:h15.next=R at *
 have nR:R ∉ [A,F]:=by simp;omega
 have nRA:R ∉ [A]:=by simp;omega
 have nRF:R ∉ [F]:=by simp;omega
 have cr:∀ {H H':Heap},Chg [] h1 H→Chg [R] H H'→Chg [] h1 H':=fun x y=>x.new y (by simp;omega)
 have qR:∀ {H H':Heap} {s:PS},RF H A P F b s→Chg [R] H H'→RF H' A P F b s:=fun x y=>x.chg y (by simp;omega)
 obtain ⟨h18,e18,q18,g18⟩:=f112_eq (N:=N) q16 (by omega)
 have b18:=ca b16 g18
 have hnl:=vT_len b 32 (some s1'.1)
 generalize hnm:vT b 32 (some s1'.1)=nm at *
 generalize ho2:nx s1' (sT b 32 (some s1'.1))=s2 at *
 have r18:=w16.chg g18 nR
 have s19:h18.store (R,0) [.str nm]=some (h18.put R (.row (CTy.tos T36 (nm,0,0,⟨none,0,0,0⟩,z32)) .own)):=r18.store1 (j:=0) (by show 0<36;omega) _
 have r19:=own_put r18 (CTy.tos T36 (nm,0,0,⟨none,0,0,0⟩,z32))
 have g19:=r18.put (CTy.tos T36 (nm,0,0,⟨none,0,0,0⟩,z32))
 have q19:=qR q18 g19
 have b19:=cr b18 g19
 generalize h18.put R (.row (CTy.tos T36 (nm,0,0,⟨none,0,0,0⟩,z32)) .own)=h19 at *
 obtain ⟨h21,e21,q21,g21⟩:=f111_eq (N:=N) q19 (by omega)
 have b21:=ca b19 g21
 generalize hcd:dec (vU b (some s2.1))=cd at *
 have hp3:nx s2 (sU b (some s2.1))=pU b s2:=rfl
 rw [hp3] at q21
 generalize ho3:pU b s2=s3 at *
 obtain ⟨h23,e23,q23,g23⟩:=f111_eq (N:=N) q21 (by omega)
 have b23:=ca b21 g23
 generalize hat:dec (vU b (some s3.1))=at_ at *
 have hp4:nx s3 (sU b (some s3.1))=pU b s3:=rfl
 rw [hp4] at q23
 generalize ho4:pU b s3=s4 at *
 have r23:=(r19.chg g21 nR).chg g23 nR
 have s24:h23.store (R,1) [.int .i64 cd]=some (h23.put R (.row (CTy.tos T36 (nm,cd,0,⟨none,0,0,0⟩,z32)) .own)):=r23.store1 (j:=1) (by show 1<36;omega) _
 have r24:=own_put r23 (CTy.tos T36 (nm,cd,0,⟨none,0,0,0⟩,z32))
 have g24:=r23.put (CTy.tos T36 (nm,cd,0,⟨none,0,0,0⟩,z32))
 have q24:=qR q23 g24
 have b24:=cr b23 g24
 generalize h23.put R (.row (CTy.tos T36 (nm,cd,0,⟨none,0,0,0⟩,z32)) .own)=h24 at *
 have s25:h24.store (R,2) [.int .i64 at_]=some (h24.put R (.row (CTy.tos T36 (nm,cd,at_,⟨none,0,0,0⟩,z32)) .own)):=r24.store1 (j:=2) (by show 2<36;omega) _
 have r25:=own_put r24 (CTy.tos T36 (nm,cd,at_,⟨none,0,0,0⟩,z32))
 have g25:=r24.put (CTy.tos T36 (nm,cd,at_,⟨none,0,0,0⟩,z32))
 have q25:=qR q24 g25
 have b25:=cr b24 g25
 generalize h24.put R (.row (CTy.tos T36 (nm,cd,at_,⟨none,0,0,0⟩,z32)) .own)=h25 at *
 obtain ⟨er,bd,h29,e29,t29,q29,z29,g29⟩:=f68_rf (N:=N) q25 (lim:=1000) (by omega) (by omega)
 have b29:=cA b25 g29
 have hcl:=vN_le b 1000 (some s4.1)
 generalize hcn:vN b 1000 (some s4.1)=cn at *
 obtain ⟨h38,q38,g38,m38⟩:=q29.mark t29
 have b38:=cF b29 g38
 simp only [z29] at q38
 have q38':RF h38 A P F b (nx s4 (sN b 1000 (some s4.1))):=q38
 generalize ho5:nx s4 (sN b 1000 (some s4.1))=s5 at *
 have r38:=(r25.chg g29 nRA).chg g38 nRF
 obtain ⟨s,h67,e67,q67,r67,fl,fln,fb,b67⟩:=f69_loop (N:=N) (h0:=h1) (b:=b) (v0:=a0) (v2:=some (h.next,0)) (T:=cn) hcl (by omega) (show F<R by omega) hA cn 0 N (sl:=⟨none,0,0,0⟩) (acc:=[]) (by omega) (by omega) rfl q38' r38 (Fl.nil h38 0 4) rfl (by simp [SL.blk]) b38
 generalize hds:(pDs b cn s5).1=ds at *
 generalize ho6:(pDs b cn s5).2=s6 at *
 rw [List.nil_append] at fl fln
 obtain ⟨x,eh,bh,h71,hx,e71,t71,q71,z71,g71⟩:=f70_rf (N:=N) q67
 have b71:=cA b67 g71
 have r71:=r67.chg g71 nRA
 have fl71:=fl.chg g71 (fun B hB hm=>by have:=fb B hB;simp at hm;omega)
 have c72:=chg_push h71 (.row (CTy.tos T32 z32) .own)
 have w72:=push32 h71 z32
 have n72:(h71.push (.row (CTy.tos T32 z32) .own)).next=h71.next+1:=rfl
 generalize hh72:h71.push (.row (CTy.tos T32 z32) .own)=h72 at *
 generalize hC:h71.next=C at *
 have hRl:R<C:=by rw [← hC];exact r71.2
 have s73:h72.store (C,0) (CTy.tos T32 x)=some (h72.put C (.row (CTy.tos T32 x) .own)):=w72.store rfl
 have w73:=own_put w72 (CTy.tos T32 x)
 have g73:=w72.put (CTy.tos T32 x)
 have b73:=(b71.trans c72).new g73 (by simp;omega)
 have q73:=(q71.chg c72 (by simp)).chg g73 (by simp;omega)
 have r73:=(r71.chg c72 (by simp)).chg g73 (by simp;omega)
 have fl73:=(fl71.chg c72 (fun B hB=>by simp)).chg g73 (fun B hB hm=>by have:=fl71.lt B hB;simp at hm;omega)
 generalize h72.put C (.row (CTy.tos T32 x) .own)=h73 at *
 have k73:=c32 w73
 have s76:h73.store (R,4) (CTy.tos T32 x)=some (h73.put R (.row (CTy.tos T36 (nm,cd,at_,s,x)) .own)):=own_storeN r73 (j:=4) (by show 4+32≤36;omega)
 have r76:=own_put r73 (CTy.tos T36 (nm,cd,at_,s,x))
 have g76:=r73.put (CTy.tos T36 (nm,cd,at_,s,x))
 have q76:=qR q73 g76
 have b76:=cr b73 g76
 have fl76:=fl73.chg g76 (fun B hB hm=>by have:=fb B hB;simp at hm;omega)
 generalize h73.put R (.row (CTy.tos T36 (nm,cd,at_,s,x)) .own)=h76 at *
 obtain ⟨h85,q85,g85,m85⟩:=q76.mark t71
 have b85:=cF b76 g85
 simp only [z71] at q85
 have q85':RF h85 A P F b (nx s6 (sH b (some s6.1))):=q85
 have r85:=r76.chg g85 nRF
 have fl85:=fl76.chg g85 (fun B hB hm=>by have:=fb B hB;simp at hm;omega)
 have hFd:fieldsP b=(⟨nm,cd,at_,ds,vH b (some s6.1)⟩,nx s6 (sH b (some s6.1))):=by
  have e:fieldsP b=fieldsS b s1':=by rw [← ho1',← ho1];rfl
  rw [e]
  simp only [fieldsS,ho2,hnm,hcd,ho3,hat,ho4,hcn,ho5,hds,ho6]
 generalize hsg:vH b (some s6.1)=sg at *
 generalize ho7:nx s6 (sH b (some s6.1))=s7 at *
 have hz:((AV.str [])::(.int .i64 0)::(.int .i64 0)::(.slice none 0 0 0)::CTy.tos T32 z32)=CTy.tos T36 zero36:=rfl
 have cellsN:∀ {H:Heap} {A:Nat} {y:dens T36},H.own A (CTy.tos T36 y)→H.cells (A,0) 36=some (.agg (CTy.tos T36 y)):=fun o=>by rw [o.cells (j:=0) (m:=36) (by show 0+36≤36;omega)];rfl
 have out:∀ {H:Heap} (y:dens T36),Chg [] h1 H→H.store (h.next,0) (CTy.tos T36 y)=some (H.put h.next (.row (CTy.tos T36 y) .own))∧(H.put h.next (.row (CTy.tos T36 y) .own)).cells (h.next,0) 36=some (.agg (CTy.tos T36 y))∧Chg [] h (H.put h.next (.row (CTy.tos T36 y) .own)):=fun {H} y ch=>by
  have o:=w1.chg ch (by simp)
  exact ⟨o.store rfl,cellsN (own_put o _),(c1.trans ch).step (o.put _) fun B hB hl=>by rw [List.mem_singleton.1 hB] at hl;omega⟩
 rw [show ((1000:Nat):Int)=1000 from rfl] at e29
 rw [show ((0:Nat):Int)=0 from rfl] at e67
 have kp25:=q25.kp
 have kp67:=q67.kp
 have kf85:=q85'.kf
 have fin:∀ {K:Option ((dens T36×AV×Unit)×Heap)},K=f69 N a0 h→K=f69 N a0 h:=fun e=>e
 cases hbd:s7.2 with
 | true=>
  rw [hbd] at kf85
  obtain ⟨v,h106,e106,ft,g106⟩:=f25_eq (N:=N) (h:=h85) 0 (show (4:Int)≠0 by omega)
  obtain ⟨u1,u2,u3⟩:=out zero36 (b85.trans g106)
  refine .inr ⟨v,_,by simp only [getP,hFd,hbd,cond_true],?_,ft.nn,u3⟩
  unfold f69
  simp only [hz,hh1,e3,bind2_some,hh4,hP,t5,need_some,hh6,hF,t7,e9,eqB,hb15,hh16,hR,e18,Nat.zero_add,s19,e21,e23,s24,s25,kp25,bindV_some,cast_ptr,e29,m38,e67,bind3_some,kp67,e71,hh72,hC,s73,k73,cast32,s76,m85,kf85,cast_bool,Bool.not_true,cond_false,cond_true,e106,u1,u2,cast36]
 | false=>
  rw [hbd] at kf85
  have RCr:RC h85 (nm,cd,at_,s,x) ⟨nm,cd,at_,ds,sg⟩:=by
   refine ⟨rfl,rfl,rfl,⟨fln,?_,fl85.all⟩,hx⟩
   exact fl85.sees.1
  have k85:=cellsN r85
  cases hm:mayR ⟨nm,cd,at_,ds,sg⟩ with
  | false=>
   obtain ⟨v2,h92,e92,ft2,g92⟩:=f30_bad (N:=N) RCr hN hm
   obtain ⟨h94,e94,q94,g94⟩:=(q85'.chg g92 (by simp)).flag true
   have kf94:=q94.kf
   have b94:=cF (b85.trans g92) g94
   obtain ⟨v,h106,e106,ft,g106⟩:=f25_eq (N:=N) (h:=h94) 0 (show (4:Int)≠0 by omega)
   obtain ⟨u1,u2,u3⟩:=out zero36 (b94.trans g106)
   have nn2:=nnN 91 ft2.nn
   refine .inr ⟨v,_,by simp only [getP,hFd,hbd,cond_false,hm,Bool.false_and],?_,ft.nn,u3⟩
   unfold f69
   simp only [hz,hh1,e3,bind2_some,hh4,hP,t5,need_some,hh6,hF,t7,e9,eqB,hb15,hh16,hR,e18,Nat.zero_add,s19,e21,e23,s24,s25,kp25,bindV_some,cast_ptr,e29,m38,e67,bind3_some,kp67,e71,hh72,hC,s73,k73,cast32,s76,m85,kf85,cast_bool,Bool.not_false,cond_true,k85,cast36,e92,nn2,e94,kf94,e106,u1,u2]
  | true=>
   obtain ⟨s8,h92,e92,bt,g92⟩:=f30_good (N:=N) RCr hN (by show nm.length≤2000;omega) hm
   have x92:=One.chgM x0 (c1.trans (b85.trans g92)) (by simp)
   have e97:=f40_eq (N:=N) bt.one x92
   obtain ⟨h99,e99,q99,g99⟩:=(q85'.chg g92 (by simp)).flag (!decide (putR ⟨nm,cd,at_,ds,sg⟩=b))
   have kf99:=q99.kf
   have b99:=cF (b85.trans g92) g99
   have nn2:=nilN 91
   by_cases hp:putR ⟨nm,cd,at_,ds,sg⟩=b
   ·rw [decide_eq_true hp] at e97 e99 kf99
    rw [Bool.not_true] at e99 kf99
    have r99:=(r85.chg g92 (by simp)).chg g99 nRF
    have k99:=cellsN r99
    obtain ⟨u1,u2,u3⟩:=out (nm,cd,at_,s,x) b99
    have oh:=w1.chg b99 (by simp)
    refine .inl ⟨⟨nm,cd,at_,ds,sg⟩,(nm,cd,at_,s,x),_,by simp only [getP,hFd,hbd,cond_false,hm,decide_eq_true hp,Bool.and_self,cond_true],?_,?_,fun B hB=>(by have:=fb B hB;omega),u3⟩
    ·unfold f69
     simp only [hz,hh1,e3,bind2_some,hh4,hP,t5,need_some,hh6,hF,t7,e9,eqB,hb15,hh16,hR,e18,Nat.zero_add,s19,e21,e23,s24,s25,kp25,bindV_some,cast_ptr,e29,m38,e67,bind3_some,kp67,e71,hh72,hC,s73,k73,cast32,s76,m85,kf85,cast_bool,Bool.not_false,cond_true,k85,cast36,e92,nn2,cond_false,e97,Bool.not_true,e99,kf99,k99,u1,u2]
    ·have fl99:=(fl85.chg g92 (fun B hB=>by simp)).chg g99 (fun B hB hm=>by have:=fb B hB;simp at hm;omega)
     have flo:=fl99.chg (oh.put (CTy.tos T36 (nm,cd,at_,s,x))) (fun B hB hm=>by have:=fb B hB;simp at hm;omega)
     exact ⟨rfl,rfl,rfl,⟨fln,flo.sees.1,flo.all⟩,hx⟩
   ·rw [decide_eq_false hp] at e97 e99 kf99
    rw [Bool.not_false] at e99 kf99
    obtain ⟨v,h106,e106,ft,g106⟩:=f25_eq (N:=N) (h:=h99) 0 (show (4:Int)≠0 by omega)
    obtain ⟨u1,u2,u3⟩:=out zero36 (b99.trans g106)
    refine .inr ⟨v,_,by simp only [getP,hFd,hbd,cond_false,hm,decide_eq_false hp,Bool.and_false],?_,ft.nn,u3⟩
    unfold f69
    simp only [hz,hh1,e3,bind2_some,hh4,hP,t5,need_some,hh6,hF,t7,e9,eqB,hb15,hh16,hR,e18,Nat.zero_add,s19,e21,e23,s24,s25,kp25,bindV_some,cast_ptr,e29,m38,e67,bind3_some,kp67,e71,hh72,hC,s73,k73,cast32,s76,m85,kf85,cast_bool,Bool.not_false,cond_true,k85,cast36,e92,nn2,cond_false,e97,e99,kf99,e106,u1,u2]
end
end Vp
namespace Vp
theorem nx_ok {s:PS} {o:Option Nat} (h:(nx s o).2=false):s.2=false∧o=some (nx s o).1:=by
 cases o with
 | none=>cases h
 | some a=>exact ⟨h,rfl⟩
theorem nx_some {s:PS} {o:Option Nat} {a:Nat} (hs:s.2=false) (h:o=some a):nx s o=(a,false):=by
 subst h;show (a,s.2)=_;rw [hs]
section
variable {b:Bs}
theorem sU_some {o:Option Nat} {a:Nat} (h:sU b o=some a):∃ c,o=some c:=by
 cases o with
 | none=>cases h
 | some c=>exact ⟨c,rfl⟩
theorem sN_some {lim:Nat} {o:Option Nat} {a:Nat} (h:sN b lim o=some a):∃ c,o=some c:=by
 unfold sN at h
 cases hs:sU b o with
 | none=>rw [hs] at h;cases h
 | some c=>exact sU_some hs
theorem sH_some {o:Option Nat} {a:Nat} (h:sH b o=some a):∃ c,o=some c:=by
 cases o with
 | none=>cases h
 | some c=>exact ⟨c,rfl⟩
theorem rDs_some {k:Nat} {o:Option Nat} {a:Nat} (h:(rDs b k o).2=some a):∃ c,o=some c:=by
 cases o with
 | none=>rw [rDs_none] at h;cases h
 | some c=>exact ⟨c,rfl⟩
theorem sT_lim {lim lim':Nat} {o:Option Nat} {a:Nat} (h:sT b lim o=some a) (hl:(vT b lim o).length≤lim'):sT b lim' o=some a∧vT b lim' o=vT b lim o:=by
 unfold sT at h
 unfold vT at hl
 unfold sT vT
 cases hs:sU b o with
 | none=>rw [hs] at h;cases h
 | some c=>
  rw [hs] at h hl
  simp only at h hl ⊢
  by_cases q1:lim<vU b o
  ·rw [decide_eq_true q1] at h;cases h
  ·rw [decide_eq_false q1,cond_false] at h hl
   by_cases q2:b.length-c<vU b o
   ·rw [decide_eq_true q2] at h;cases h
   ·rw [decide_eq_false q2,cond_false] at h hl
    rw [List.length_drop,List.length_take] at hl
    have q3:¬ lim'<vU b o:=by omega
    rw [decide_eq_false q3,decide_eq_false q1,decide_eq_false q2,cond_false,cond_false,cond_false]
    exact ⟨h,rfl⟩
theorem pDs_ok:∀ (k:Nat) (s:PS),(pDs b k s).2.2=false→s.2=false∧rDs b k (some s.1)=((pDs b k s).1,some (pDs b k s).2.1)
 | 0,s,h=>⟨h,by rw [rDs_zero];rfl⟩
 | k+1,(a,true),h=>by simp [pDs] at h
 | k+1,(a,false),h=>by
  refine ⟨rfl,?_⟩
  have ih:=pDs_ok k (pU b (pU b (pU b (pU b (a,false)))))
  have e:pDs b (k+1) (a,false)=((dec (vU b (some a)),dec (vU b (some (pU b (a,false)).1)),dec (vU b (some (pU b (pU b (a,false))).1)),dec (vU b (some (pU b (pU b (pU b (a,false)))).1)),())::(pDs b k (pU b (pU b (pU b (pU b (a,false)))))).1,(pDs b k (pU b (pU b (pU b (pU b (a,false)))))).2):=rfl
  rw [e] at h ⊢
  obtain ⟨h4,r⟩:=ih h
  obtain ⟨h3,e4⟩:=nx_ok (show (nx (pU b (pU b (pU b (a,false)))) (sU b (some (pU b (pU b (pU b (a,false)))).1))).2=false from h4)
  obtain ⟨h2,e3⟩:=nx_ok (show (nx (pU b (pU b (a,false))) (sU b (some (pU b (pU b (a,false))).1))).2=false from h3)
  obtain ⟨h1,e2⟩:=nx_ok (show (nx (pU b (a,false)) (sU b (some (pU b (a,false)).1))).2=false from h2)
  obtain ⟨h0,e1⟩:=nx_ok (show (nx (a,false) (sU b (some a))).2=false from h1)
  have e1':sU b (some a)=some (pU b (a,false)).1:=e1
  have e2':sU b (some (pU b (a,false)).1)=some (pU b (pU b (a,false))).1:=e2
  have e3':sU b (some (pU b (pU b (a,false))).1)=some (pU b (pU b (pU b (a,false)))).1:=e3
  have e4':sU b (some (pU b (pU b (pU b (a,false)))).1)=some (pU b (pU b (pU b (pU b (a,false))))).1:=e4
  rw [rDs]
  simp only [e1',e2',e3',e4',r]
theorem pDs_of:∀ (k:Nat) (s:PS) {a:Nat},s.2=false→(rDs b k (some s.1)).2=some a→pDs b k s=((rDs b k (some s.1)).1,(a,false))
 | 0,(x,false),a,_,h=>by rw [rDs_zero] at h ⊢;cases h;rfl
 | k+1,(x,false),a,_,h=>by
  rw [rDs] at h ⊢
  simp only at h ⊢
  obtain ⟨c4,e4⟩:=rDs_some h
  obtain ⟨c3,e3⟩:=sU_some e4
  obtain ⟨c2,e2⟩:=sU_some e3
  obtain ⟨c1,e1⟩:=sU_some e2
  rw [e1] at e2;rw [e1,e2] at e3;rw [e1,e2,e3] at e4
  have p1:pU b (x,false)=(c1,false):=nx_some rfl e1
  have p2:pU b (c1,false)=(c2,false):=nx_some rfl e2
  have p3:pU b (c2,false)=(c3,false):=nx_some rfl e3
  have p4:pU b (c3,false)=(c4,false):=nx_some rfl e4
  simp only [e1,e2,e3,e4] at h ⊢
  have ih:=pDs_of k (c4,false) rfl h
  rw [pDs]
  simp only [cond_false,p1,p2,p3,p4,ih]
theorem rec_head {b':Bs} (h:b=encT rec_++b'):sT b 4 (some 0)=some 5∧vT b 4 (some 0)=rec_:=by
 have e:encT rec_=[4,85,82,69,67]:=by
  rw [encT,encU_lt (by simp [rec_])];rfl
 rw [e] at h
 subst h
 have hu:rU ([4,85,82,69,67]++b') 0=some (4,1):=by rfl
 have hv:vU ([4,85,82,69,67]++b') (some 0)=4:=(su_some hu).2
 have hs:sU ([4,85,82,69,67]++b') (some 0)=some 1:=(su_some hu).1
 have hl:¬ ([4,85,82,69,67]++b':Bs).length-1<4:=by simp
 constructor
 ·unfold sT
  rw [hs]
  simp only [hv,decide_eq_false (show ¬ (4:Nat)<4 by omega),cond_false,decide_eq_false hl]
 ·unfold vT
  rw [hs]
  simp only [hv,decide_eq_false (show ¬ (4:Nat)<4 by omega),cond_false,decide_eq_false hl]
  rfl
theorem mayR_name {r:Rc} (h:mayR r=true):r.name.length≤32:=by
 simp only [mayR,Bool.and_eq_true,nameB] at h
 have:=h.1.1
 simp only [lifeB,Bool.and_eq_true,decide_eq_true_eq] at this
 omega
def docS (b:Bs) (o1:Option Nat):Rc×Option Nat:=
 let o2:=sT b 100 o1
 let o3:=sU b o2
 let o4:=sU b o3
 let q:=rDs b (vN b 1000 o4) (sN b 1000 o4)
 (⟨vT b 100 o1,dec (vU b o2),dec (vU b o3),q.1,vH b q.2⟩,sH b q.2)
theorem fieldsS_ok {s:PS} (h:(fieldsS b s).2.2=false):s.2=false∧docS b (some s.1)=((fieldsS b s).1,some (fieldsS b s).2.1):=by
 have hS:fieldsS b s=(⟨vT b 32 (some s.1),dec (vU b (some (nx s (sT b 32 (some s.1))).1)),dec (vU b (some (pU b (nx s (sT b 32 (some s.1)))).1)),(pDs b (vN b 1000 (some (pU b (pU b (nx s (sT b 32 (some s.1))))).1)) (nx (pU b (pU b (nx s (sT b 32 (some s.1))))) (sN b 1000 (some (pU b (pU b (nx s (sT b 32 (some s.1))))).1)))).1,vH b (some (pDs b (vN b 1000 (some (pU b (pU b (nx s (sT b 32 (some s.1))))).1)) (nx (pU b (pU b (nx s (sT b 32 (some s.1))))) (sN b 1000 (some (pU b (pU b (nx s (sT b 32 (some s.1))))).1)))).2.1)⟩,nx (pDs b (vN b 1000 (some (pU b (pU b (nx s (sT b 32 (some s.1))))).1)) (nx (pU b (pU b (nx s (sT b 32 (some s.1))))) (sN b 1000 (some (pU b (pU b (nx s (sT b 32 (some s.1))))).1)))).2 (sH b (some (pDs b (vN b 1000 (some (pU b (pU b (nx s (sT b 32 (some s.1))))).1)) (nx (pU b (pU b (nx s (sT b 32 (some s.1))))) (sN b 1000 (some (pU b (pU b (nx s (sT b 32 (some s.1))))).1)))).2.1))):=rfl
 rw [hS] at h ⊢
 generalize hs2:nx s (sT b 32 (some s.1))=s2 at h ⊢
 generalize hs3:pU b s2=s3 at h ⊢
 generalize hs4:pU b s3=s4 at h ⊢
 generalize hs5:nx s4 (sN b 1000 (some s4.1))=s5 at h ⊢
 simp only at h
 obtain ⟨q6,e7⟩:=nx_ok h
 obtain ⟨q5,r5⟩:=pDs_ok _ _ q6
 rw [← hs5] at q5
 obtain ⟨q4,e5⟩:=nx_ok q5
 rw [hs5] at e5
 rw [← hs4] at q4
 obtain ⟨q3,e4⟩:=nx_ok (show (nx s3 (sU b (some s3.1))).2=false from q4)
 change sU b (some s3.1)=some (pU b s3).1 at e4
 rw [hs4] at e4
 rw [← hs3] at q3
 obtain ⟨q2,e3⟩:=nx_ok (show (nx s2 (sU b (some s2.1))).2=false from q3)
 change sU b (some s2.1)=some (pU b s2).1 at e3
 rw [hs3] at e3
 rw [← hs2] at q2
 obtain ⟨q1,e2⟩:=nx_ok q2
 rw [hs2] at e2
 obtain ⟨f2,v2⟩:=sT_lim (lim':=100) e2 (by have:=vT_len b 32 (some s.1);omega)
 refine ⟨q1,?_⟩
 generalize hq:pDs b (vN b 1000 (some s4.1)) s5=q at *
 simp only [docS,f2,v2,e3,e4,e5,r5,← e7]
theorem getP_eq (b:Bs):getP b=getD b:=by
 cases hb:(fieldsP b).2.2 with
 | false=>
  obtain ⟨q1,r1⟩:=fieldsS_ok (show (fieldsS b _).2.2=false from hb)
  simp only at q1
  have hd:vT b 32 (some 0)=rec_:=by
   by_cases hd:vT b 32 (some 0)=rec_
   ·exact hd
   ·rw [decide_eq_false hd,cond_false] at q1;cases q1
  rw [decide_eq_true hd,cond_true] at q1
  obtain ⟨q0,e1⟩:=nx_ok q1
  obtain ⟨f1,v1⟩:=sT_lim (lim':=4) e1 (by rw [hd];simp [rec_])
  have hF:fieldsD b=((fieldsP b).1,some (fieldsP b).2.1):=by
   have e:fieldsD b=docS b (sT b 4 (some 0)):=rfl
   rw [e,f1]
   exact r1
  unfold getP getD
  rw [hF,hb]
  rfl
 | true=>
  have hP:getP b=none:=by unfold getP;rw [hb];rfl
  rw [hP]
  cases hD:getD b with
  | none=>rfl
  | some r=>
   exfalso
   unfold getD at hD
   cases hn:(fieldsD b).2 with
   | none=>rw [hn] at hD;cases hD
   | some a7=>
    rw [hn] at hD
    simp only [Option.isNone_some,cond_false] at hD
    cases hg:mayR (fieldsD b).1&&decide (putR (fieldsD b).1=b) with
    | false=>rw [hg] at hD;cases hD
    | true=>
     rw [Bool.and_eq_true,decide_eq_true_eq] at hg
     obtain ⟨g1,g2⟩:=hg
     have hl:=mayR_name g1
     obtain ⟨t1,t2⟩:=rec_head (b:=b) (by rw [← g2,putR])
     unfold fieldsD at hn hl
     simp only at hn hl
     obtain ⟨c6,e6⟩:=sH_some hn
     obtain ⟨c5,e5⟩:=rDs_some e6
     obtain ⟨c4,e4⟩:=sN_some e5
     obtain ⟨c3,e3⟩:=sU_some e4
     obtain ⟨c2,e2⟩:=sU_some e3
     rw [t1] at e2 e3 e4 e5 e6 hn hl
     obtain ⟨f1,v1⟩:=sT_lim (lim':=32) t1 (by rw [t2];simp [rec_])
     obtain ⟨f2,v2⟩:=sT_lim (lim':=32) e2 hl
     have hq:(fieldsP b).2.2=false:=by
      unfold fieldsP fieldsS
      have p1:nx (0,false) (sT b 32 (some 0))=(5,false):=nx_some rfl f1
      have p2:vT b 32 (some 0)=rec_:=by rw [v1,t2]
      have p3:nx (5,false) (sT b 32 (some 5))=(c2,false):=nx_some rfl f2
      rw [e2] at e3 e4 e5 e6 hn
      have p4:pU b (c2,false)=(c3,false):=nx_some rfl e3
      rw [e3] at e4 e5 e6 hn
      have p5:pU b (c3,false)=(c4,false):=nx_some rfl e4
      rw [e4] at e5 e6 hn
      have p6:nx (c4,false) (sN b 1000 (some c4))=(c5,false):=nx_some rfl e5
      rw [e5] at e6 hn
      have p7:=pDs_of (vN b 1000 (some c4)) (c5,false) rfl e6
      rw [e6] at hn
      have p8:nx (c6,false) (sH b (some c6))=(a7,false):=nx_some rfl hn
      simp only [p1,p2,decide_true,cond_true,p3,p4,p5,p6,p7,p8]
     rw [hb] at hq
     cases hq
end
end Vp
namespace Vp
theorem conv_sl (t:Bs) (h:Heap):convA E 9 28 (.str t) h=some (.slice (some (h.next,0)) t.length t.length 1,h.push (.row (ofBytes t) .grown)):=by
 have u5:E.und 5=some (.int .u8):=by kernel_rfl
 unfold convA
 simp only [und9,und28,u5]
theorem conv_bt (t:Bs) (h:Heap):Bt (h.push (.row (ofBytes t) .grown)) ⟨some (h.next,0),t.length,t.length,1⟩ t:=.inr ⟨h.next,ofBytes t,.grown,rfl,rfl,Nat.lt_succ_self _,g_push_eq _ rfl,rfl,List.take_of_length_le (by rw [ofB_len];exact Nat.le_refl _),by rw [ofB_len];exact Nat.le_refl _,Nat.le_refl _,.inr (.inl rfl)⟩
section
variable {N:Nat} {h h':Heap} {A a:Nat} {b:Bs}
theorem f66_ru (p:RQ h A b a) {lim:Nat} (hlim:lim≤10000000) (hN:20≤N):∃ e h',f66 N (some (A,0)) (lim:Int) h=some ((vT b lim (some a),e,()),h')∧(∀ t,binA E .neq 34 (.tmp t) (.const .nilIface) e AV.nilIface=some (.bool (sT b lim (some a)).isNone))∧RQ h' A b ((sT b lim (some a)).getD a)∧Chg [A] h h':=by
 rcases f66_eq (N:=N) p hlim hN with ⟨t,c,h4,e1,e2,q4,c4⟩ | ⟨e,h4,e1,e2,en,q4,c4⟩
 ·rw [rT_v] at e1
  obtain ⟨a',hs,ha⟩:=Option.map_eq_some_iff.1 e1
  cases ha
  exact ⟨_,h4,e2,fun t=>by rw [hs];exact nilN t,by rw [hs];exact q4,c4⟩
 ·rw [rT_v] at e1
  have hs:sT b lim (some a)=none:=Option.map_eq_none_iff.1 e1
  have hv:vT b lim (some a)=[]:=by
   unfold sT at hs;unfold vT
   cases hq:sU b (some a) with
   | none=>rfl
   | some c=>
    rw [hq] at hs
    revert hs
    simp only
    cases decide (lim<vU b (some a)) <;> cases decide (b.length-c<vU b (some a)) <;> simp
  exact ⟨e,h4,by rw [hv];exact e2,fun t=>by rw [hs];exact nnN t en,by rw [hs];exact q4,c4⟩
theorem f67_ru (p:RQ h A b a) (hN:20≤N):∃ e h',f67 N (some (A,0)) h=some ((dec (vU b (some a)),e,()),h')∧(∀ t,binA E .neq 34 (.tmp t) (.const .nilIface) e AV.nilIface=some (.bool (sU b (some a)).isNone))∧RQ h' A b ((sU b (some a)).getD a)∧Chg [A] h h':=by
 rcases f67_eq (N:=N) p hN with ⟨t,c,h4,e1,e2,q4,c4⟩ | ⟨e,h4,e1,e2,en,q4,c4⟩
 ·rw [rI_v] at e1
  obtain ⟨a',hs,ha⟩:=Option.map_eq_some_iff.1 e1
  cases ha
  exact ⟨_,h4,e2,fun t=>by rw [hs];exact nilN t,by rw [hs];exact q4,c4⟩
 ·rw [rI_v] at e1
  have hs:sU b (some a)=none:=Option.map_eq_none_iff.1 e1
  have hv:dec (vU b (some a))=0:=by rw [vU_none hs];rfl
  exact ⟨e,h4,by rw [hv];exact e2,fun t=>by rw [hs];exact nnN t en,by rw [hs];exact q4,c4⟩
theorem f68_ru (p:RQ h A b a) {lim:Nat} (hlim:lim≤10000000) (hN:20≤N):∃ e h',f68 N (some (A,0)) (lim:Int) h=some ((((vN b lim (some a):Nat):Int),e,()),h')∧(∀ t,binA E .neq 34 (.tmp t) (.const .nilIface) e AV.nilIface=some (.bool (sN b lim (some a)).isNone))∧RQ h' A b ((sN b lim (some a)).getD a)∧Chg [A] h h':=by
 rcases f68_eq (N:=N) p hlim hN with ⟨t,c,h4,e1,hl,e2,q4,c4⟩ | ⟨e,h4,e1,e2,en,q4,c4⟩
 ·rw [rN_v] at e1
  obtain ⟨a',hs,ha⟩:=Option.map_eq_some_iff.1 e1
  cases ha
  exact ⟨_,h4,e2,fun t=>by rw [hs];exact nilN t,by rw [hs];exact q4,c4⟩
 ·rw [rN_v] at e1
  have hs:sN b lim (some a)=none:=Option.map_eq_none_iff.1 e1
  have hv:vN b lim (some a)=0:=by
   unfold sN at hs;unfold vN
   cases hq:sU b (some a) with
   | none=>rfl
   | some c=>
    rw [hq] at hs
    revert hs
    simp only
    cases decide (lim<vU b (some a)) <;> simp
  exact ⟨e,h4,by rw [hv];exact e2,fun t=>by rw [hs];exact nnN t en,by rw [hs];exact q4,c4⟩
theorem f70_ru (p:RQ h A b a):∃ x e h',HB x (vH b (some a))∧f70 N (some (A,0)) h=some ((x,e,()),h')∧(∀ t,binA E .eql 34 (.tmp t) (.const .nilIface) e AV.nilIface=some (.bool (!(sH b (some a)).isNone)))∧RQ h' A b ((sH b (some a)).getD a)∧Chg [A] h h':=by
 rcases f70_eq (N:=N) p with ⟨x,y,c,h4,e1,hx,e2,q4,c4⟩ | ⟨e,h4,e1,e2,en,q4,c4⟩
 ·rw [rH_v] at e1
  obtain ⟨a',hs,ha⟩:=Option.map_eq_some_iff.1 e1
  cases ha
  exact ⟨x,_,h4,hx,e2,fun t=>by rw [hs];exact nilE t,by rw [hs];exact q4,c4⟩
 ·rw [rH_v] at e1
  have hs:sH b (some a)=none:=Option.map_eq_none_iff.1 e1
  have hv:vH b (some a)=zerosH:=by
   unfold sH at hs;unfold vH
   revert hs
   simp only
   cases decide (b.length-a<32) <;> simp
  exact ⟨z32,e,h4,by rw [hv];exact HB.zero,e2,fun t=>by rw [hs];exact nnE t en,by rw [hs];exact q4,c4⟩
end
def pRs (b:Bs):Nat→Nat→Option (List Rc×Nat)
 | 0,a=>some ([],a)
 | k+1,a=>match sT b 4194304 (some a) with
  | none=>none
  | some a'=>match getD (vT b 4194304 (some a)) with
   | none=>none
   | some r=>(pRs b k a').map fun p=>(r::p.1,p.2)
section
variable {N:Nat} {h0:Heap} {A V O:Nat} {b:Bs}
theorem f39_loop {c a:Int} {z:dens T32} {y0:dens T35} {T:Nat} (hT:T≤64) (hN:3000≤N) (hAV:A<V) (hA0:h0.next≤A) (wO:h0.own O (CTy.tos T35 y0)):∀ (k i M:Nat) {h:Heap} {at_:Nat} {s:SL} {xs:List (dens T36)} {l:List Rc},i+k=T→k<M→l.length=i→RQ h A b at_→h.own V (CTy.tos T35 (c,a,s,z))→RB h A V h0.next s xs l→(∀ B,s.blk=some B→V<B)→Chg [] h0 h→
  (∃ s' xs' l' a' h',pRs b k at_=some (l',a')∧f39_l1 N M (some (O,0)) false (some (A,0)) (some (V,0)) (T:Int) (i:Int) h=some (.exit 0,(some (O,0),false,some (A,0),some (V,0),()),h')∧RQ h' A b a'∧h'.own V (CTy.tos T35 (c,a,s',z))∧RB h' A V h0.next s' xs' (l++l')∧(∀ B,s'.blk=some B→V<B)∧Chg [] h0 h')∨
  (∃ y h',pRs b k at_=none∧f39_l1 N M (some (O,0)) false (some (A,0)) (some (V,0)) (T:Int) (i:Int) h=some (.ret,(some (O,0),false,some (A,0),some (V,0),()),h')∧h'.own O (CTy.tos T35 y)∧Chg [O] h0 h'):=by
 intro k
 induction k with
 | zero=>
  intro i M h at_ s xs l hi hM hl p oV pB sB ch
  obtain ⟨M,rfl⟩:∃ M',M=M'+1:=⟨M-1,by omega⟩
  refine .inl ⟨s,xs,[],at_,h,rfl,?_,p,oV,by rw [List.append_nil];exact pB,sB,ch⟩
  rw [f39_l1_succ]
  unfold f39_l1_b
  simp only [ltI,decide_eq_false (show ¬ (i:Int)<(T:Int) by omega),cond_false]
 | succ k ih=>
  intro i M h at_ s xs l hi hM hl p oV pB sB ch
  obtain ⟨M,rfl⟩:∃ M',M=M'+1:=⟨M-1,by omega⟩
  have dk:ltInt (i:Int) (T:Int)=true:=by rw [ltI];exact decide_eq_true (by omega)
  have hAl:A<h.next:=by obtain ⟨s,p1,_⟩:=p;exact p1.2
  have hVl:=oV.2
  have z36:((AV.str [])::(.int .i64 0)::(.int .i64 0)::(.slice none 0 0 0)::CTy.tos T32 z32)=CTy.tos T36 zero36:=rfl
  obtain ⟨e,h37,e1,t1,q1,g1⟩:=f66_ru (N:=N) p (lim:=4194304) (by omega) (by omega)
  have htl:=vT_len b 4194304 (some at_)
  have hrr:pRs b (k+1) at_=(match sT b 4194304 (some at_) with | none=>none | some a'=>match getD (vT b 4194304 (some at_)) with | none=>none | some r=>(pRs b k a').map fun p=>(r::p.1,p.2)):=rfl
  generalize vT b 4194304 (some at_)=t at *
  generalize sT b 4194304 (some at_)=o1 at *
  have n37:=g1.next
  have pB37:=pB.chg g1 (fun C hC=>.inl (List.mem_singleton.1 hC))
  have oV37:=oV.chg g1 (by simp;omega)
  have ch37:Chg [] h0 h37:=ch.new g1 (by simpa using hA0)
  rw [show ((4194304:Nat):Int)=4194304 from rfl] at e1
  have lose:∀ {H:Heap},Chg [] h0 H→H.own V (CTy.tos T35 (c,a,s,z))→H.cells (V,0) 35=some (.agg (CTy.tos T35 (c,a,s,z)))∧H.store (O,0) (CTy.tos T35 (c,a,s,z))=some (H.put O (.row (CTy.tos T35 (c,a,s,z)) .own))∧(H.put O (.row (CTy.tos T35 (c,a,s,z)) .own)).own O (CTy.tos T35 (c,a,s,z))∧Chg [O] h0 (H.put O (.row (CTy.tos T35 (c,a,s,z)) .own)):=fun {H} x y=>by
   have o:=wO.chg x (by simp)
   exact ⟨cellsN35 y,o.store rfl,own_put o _,(x.mono (by simp)).trans (o.put _)⟩
  cases o1 with
  | none=>
   obtain ⟨u1,u2,u3,u4⟩:=lose ch37 oV37
   refine .inr ⟨_,_,by rw [hrr],?_,u3,u4⟩
   rw [f39_l1_succ]
   unfold f39_l1_b
   simp only [dk,cond_true,e1,bind2_some,t1,bindV_some,cast_bool,Option.isNone_none,need_some,u1,cast35,u2]
  | some a1=>
   simp only [Option.getD_some] at q1
   simp only at hrr
   have c44:=chg_push h37 (.row (ofBytes t) .grown)
   have bt:=conv_bt t h37
   have ec:=conv_sl t h37
   generalize hh44:h37.push (.row (ofBytes t) .grown)=h44 at *
   have ch44:=ch37.trans c44
   have pB44:=pB37.chg c44 (by simp)
   have oV44:=oV37.chg c44 (by simp)
   have q44:=q1.chg c44
   rcases f69_eq (N:=N) (h:=h44) bt.one (by omega) hN with ⟨r,x,h46,hg,e2,hr,hrb,g2⟩ | ⟨e3,h46,hg,e2,nn,g2⟩
   ·rw [getP_eq] at hg
    have n46:=g2.next
    have c47:=chg_push h46 (.row (CTy.tos T36 zero36) .own)
    have w47:=own36 h46 zero36
    have s48:(h46.push (.row (CTy.tos T36 zero36) .own)).store (h46.next,0) (CTy.tos T36 x)=some ((h46.push (.row (CTy.tos T36 zero36) .own)).put h46.next (.row (CTy.tos T36 x) .own)):=w47.store rfl
    have w48:=own_put w47 (CTy.tos T36 x)
    have g48:Chg [] h46 ((h46.push (.row (CTy.tos T36 zero36) .own)).put h46.next (.row (CTy.tos T36 x) .own)):=c47.step (w47.put _) fun B hB hl=>by rw [List.mem_singleton.1 hB] at hl;omega
    generalize (h46.push (.row (CTy.tos T36 zero36) .own)).put h46.next (.row (CTy.tos T36 x) .own)=h48 at *
    have n48:=g48.next
    have n44:=c44.next
    have pB48:=(pB44.chg g2 (by simp)).chg g48 (by simp)
    have oV48:=(oV44.chg g2 (by simp)).chg g48 (by simp)
    have q48:=(q44.chg g2).chg g48
    have ch48:=(ch44.trans g2).trans g48
    have kV:=(cells35 oV48).c2
    obtain ⟨s',h59,a1',a2,a4,a5⟩:=pB48.snoc (hr.chg g48) (fun B hB=>by
     have:=hrb B hB
     have hlo:=ch44.next
     refine ⟨by omega,by omega,fun e=>?_,by omega⟩
     have:=pB44.fl.lt B e
     omega) (by omega) (by omega) (by omega)
    have hblk:∀ C,s.blk≠some C→C ∉ s.blk.toList:=fun C hC hm=>by
     cases hq:s.blk with
     | none=>rw [hq] at hm;cases hm
     | some B=>rw [hq] at hm;simp at hm;exact hC (by rw [hq,hm])
    have sBl:∀ B∈s.blk.toList,V<B:=fun B hB=>by
     cases hq:s.blk with
     | none=>rw [hq] at hB;cases hB
     | some C=>rw [hq] at hB;simp at hB;rw [hB];exact sB C hq
    have oV59:=oV48.chg a4 (hblk V pB.sV)
    have s61:h59.store (V,2) [SL.av s']=some (h59.put V (.row (CTy.tos T35 (c,a,s',z)) .own)):=oV59.store1 (j:=2) (by show 2<35;omega) _
    have oV61:=own_put oV59 (CTy.tos T35 (c,a,s',z))
    have cV:=oV59.put (CTy.tos T35 (c,a,s',z))
    have q61:=(q48.chgM a4 (fun C hC=>by have:=sBl C hC;omega)).chgM cV (by simpa using hAV)
    have pB61:=a2.chg cV (fun C hC=>.inr (.inl (List.mem_singleton.1 hC)))
    have ch61:Chg [] h0 (h59.put V (.row (CTy.tos T35 (c,a,s',z)) .own)):=(ch48.new a4 (fun C hC=>by have:=sBl C hC;omega)).new cV (by simp;omega)
    generalize h59.put V (.row (CTy.tos T35 (c,a,s',z)) .own)=h61 at *
    have sB':∀ B,s'.blk=some B→V<B:=fun B hB=>by
     rcases a5 B hB with q | q
     ·exact sB B q
     ·omega
    have wk:wrapA .i64 ((i:Int)+1)=((i+1:Nat):Int):=by rw [wrapA_small (by omega) (by omega)];omega
    have step:f39_l1 N (M+1) (some (O,0)) false (some (A,0)) (some (V,0)) (T:Int) (i:Int) h=f39_l1 N M (some (O,0)) false (some (A,0)) (some (V,0)) (T:Int) ((i+1:Nat):Int) h61:=by
     rw [f39_l1_succ]
     unfold f39_l1_b
     simp only [dk,cond_true,e1,bind2_some,t1,bindV_some,cast_bool,Option.isNone_some,cond_false,ec,bindT_some,cast_slice,e2,z36,s48,need_some,nilN,Nat.zero_add,kV,cellsN36 w48,cast36,a1']
     rw [show [AV.slice s'.a s'.len s'.cap s'.sz]=[SL.av s'] from rfl,s61]
     simp only [need_some,wk]
    rcases ih (i+1) M (by omega) (by omega) (by rw [List.length_append,List.length_singleton];omega) q61 oV61 pB61 sB' ch61 with ⟨s6,xs6,l6,o6,h6,b1,b2,b3,b4,b5,b6,b7⟩ | ⟨y,h6,b1,b2,b3,b4⟩
    ·exact .inl ⟨s6,xs6,r::l6,o6,h6,by rw [hrr,hg];simp only [b1,Option.map_some],by rw [step,b2],b3,b4,by rw [List.append_assoc] at b5;exact b5,b6,b7⟩
    ·exact .inr ⟨y,h6,by rw [hrr,hg];simp only [b1,Option.map_none],by rw [step,b2],b3,b4⟩
   ·rw [getP_eq] at hg
    have c47:=chg_push h46 (.row (CTy.tos T36 zero36) .own)
    have w47:=own36 h46 zero36
    have s48:(h46.push (.row (CTy.tos T36 zero36) .own)).store (h46.next,0) (CTy.tos T36 zero36)=some ((h46.push (.row (CTy.tos T36 zero36) .own)).put h46.next (.row (CTy.tos T36 zero36) .own)):=w47.store rfl
    have g48:Chg [] h46 ((h46.push (.row (CTy.tos T36 zero36) .own)).put h46.next (.row (CTy.tos T36 zero36) .own)):=c47.step (w47.put _) fun B hB hl=>by rw [List.mem_singleton.1 hB] at hl;omega
    generalize (h46.push (.row (CTy.tos T36 zero36) .own)).put h46.next (.row (CTy.tos T36 zero36) .own)=h48 at *
    have ch48:=(ch44.trans g2).trans g48
    have oV48:=(oV44.chg g2 (by simp)).chg g48 (by simp)
    obtain ⟨u1,u2,u3,u4⟩:=lose ch48 oV48
    have nb:=nnN 81 nn
    refine .inr ⟨_,_,by rw [hrr,hg],?_,u3,u4⟩
    rw [f39_l1_succ]
    unfold f39_l1_b
    simp only [dk,cond_true,e1,bind2_some,t1,bindV_some,cast_bool,Option.isNone_some,cond_false,ec,bindT_some,cast_slice,e2,z36,s48,need_some,nb,u1,cast35,u2]
end
end Vp
end Go.Proofs.YtjipnkhkkhpenaaGreatDoor

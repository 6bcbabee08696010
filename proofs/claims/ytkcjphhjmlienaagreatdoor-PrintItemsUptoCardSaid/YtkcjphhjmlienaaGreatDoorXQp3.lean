import Derived.Test.YtkcjphhjmlienaaGreatDoorXQp2
import Derived.Test.YtkcjphhjmlienaaGreatDoorXQp1
import Derived.Lib.ItoaLen
/- Functions of the program as plain functions, and what they come to; part 3. -/
namespace Go.Proofs.YtkcjphhjmlienaaGreatDoor
set_option linter.unusedVariables false
set_option linter.unusedSimpArgs false
set_option maxRecDepth 100000
open Go Ai Go.Proofs
namespace Qp
def rTy (d:D):Prop:=∃ (k:Int) (y:Bs) (lv:List Bs) (el:List D),d=tyD k y lv el
def rLf (d:D):Prop:=∃ (nm:Bs) (xs:List Bs),d=gE nm (xs.map D.s)
def rOp (d:D):Prop:=∃ k n pl,d=opD k n pl∧rLf pl
def rVa (d:D):Prop:=∃ (k:Int) (a b:D) (op:Int) (pl:D) (nm:Bs) (ns:List Bs) (ag:List D),d=vaD k a b op pl nm (ns.map D.s) ag∧rOp a∧rOp b∧rLf pl∧∀ o∈ag,rOp o
def rFd (d:D):Prop:=∃ m nm ty,d=fdD m nm ty∧rTy ty∧Wt Tryz.prog ty 41
def rSt (d:D):Prop:=∃ pub nm lv fs a,d=iAm pub nm lv fs a∧∀ f∈fs,rFd f
def rSm (d:D):Prop:=∃ (k a:Int) (m:Bool) (nm:Bs) (ty:D) (hs:Bool) (pl va co:D) (th el:List D),d=smT k a m nm ty hs pl va co th el∧rTy ty∧rLf pl∧rVa va∧rOp co∧Wt Tryz.prog ty 41∧(∀ s∈th,Wt Tryz.prog s 106)∧∀ s∈el,Wt Tryz.prog s 106
def rFu (d:D):Prop:=∃ pub nm lv ps ty bd a,d=fuT pub nm lv ps ty bd a∧rTy ty∧Wt Tryz.prog ty 41∧(∀ l∈lv,rLf l)∧(∀ p∈ps,rFd p)∧∀ s∈bd,Wt Tryz.prog s 106
section
variable {h:Heap} {V W:Nat→Prop} {cs:List AV}
theorem pAc {d:D} (t:rTy d) (x:Dt h V d cs):∃ r:TyV,cs=tyc r:=by
 obtain ⟨k,y,lv,el,rfl⟩:=t;obtain ⟨s1,s2,hc,_⟩:=jG.1 x;exact ⟨_,hc⟩
theorem yA1 {d:D} (t:rLf d) (x:Dt h V d cs):∃ r:LfV,cs=lfc r:=by
 obtain ⟨nm,xs,rfl⟩:=t;obtain ⟨s,hc,_⟩:=oI x;exact ⟨_,hc⟩
theorem cAz {m:Bool} {nm:Bs} {ty:D} (t:rTy ty) (x:Dt h V (fdD m nm ty) cs):∃ r:TyV,cs=fdc (nB5 m nm r)∧Dt h V ty (tyc r):=by
 simp only [fdD,Dt,Dp] at x;obtain ⟨_,_,rfl,e1,_,_,rfl,e2,_,_,rfl,x3,rfl⟩:=x;subst e1 e2;obtain ⟨r,rfl⟩:=pAc t x3;exact ⟨r,rfl,x3⟩
theorem oAj {k n:Int} {pl:D} (t:rLf pl) (x:Dt h V (opD k n pl) cs):∃ p:LfV,cs=opc (k,n,p.1,p.2.1,())∧Dt h V pl (lfc p):=by
 simp only [opD,Dt,Dp] at x;obtain ⟨_,_,rfl,e1,_,_,rfl,e2,_,_,rfl,x3,rfl⟩:=x;subst e1 e2;obtain ⟨r,rfl⟩:=yA1 t x3;exact ⟨r,rfl,x3⟩
theorem aA2 {d:D} (t:rOp d) (x:Dt h V d cs):∃ r:OpV,cs=opc r:=by
 obtain ⟨k,n,pl,rfl,ht⟩:=t;obtain ⟨p,hc,_⟩:=oAj ht x;exact ⟨_,hc⟩
theorem qAc {k op:Int} {a b pl:D} {nm:Bs} {ns ag:List D} (ta:rOp a) (tb:rOp b) (tp:rLf pl) (x:Dt h V (vaD k a b op pl nm ns ag) cs):∃ (ra rb:OpV) (rp:LfV) (s1 s2:SL),cs=vac (fI k ra rb op rp nm s1 s2)∧Dt h V a (opc ra)∧Dt h V b (opc rb)∧Dt h V pl (lfc rp)∧Sl h V s1 ns∧Sl h V s2 ag:=by
 simp only [vaD,Dt,Dp] at x;obtain ⟨_,_,rfl,e1,_,_,rfl,x2,_,_,rfl,x3,_,_,rfl,e4,_,_,rfl,x5,_,_,rfl,e6,_,_,rfl,x7,_,_,rfl,x8,rfl⟩:=x;subst e1 e4 e6;obtain ⟨ra,rfl⟩:=aA2 ta x2;obtain ⟨rb,rfl⟩:=aA2 tb x3;obtain ⟨rp,rfl⟩:=yA1 tp x5;obtain ⟨s1,rfl,h1⟩:=dA0 x7;obtain ⟨s2,rfl,h2⟩:=dA0 x8;exact ⟨ra,rb,rp,s1,s2,rfl,x2,x3,x5,h1,h2⟩
theorem kAs {d:D} (t:rVa d) (x:Dt h V d cs):∃ r:VaV,cs=vac r:=by
 obtain ⟨k,a,b,op,pl,nm,ns,ag,rfl,ta,tb,tp,_⟩:=t;obtain ⟨ra,rb,rp,s1,s2,hc,_⟩:=qAc ta tb tp x;exact ⟨_,hc⟩
theorem pAj {k a:Int} {m hs:Bool} {nm:Bs} {ty pl va co:D} {th el:List D} (tt:rTy ty) (tp:rLf pl) (tv:rVa va) (tq:rOp co) (x:Dt h V (smT k a m nm ty hs pl va co th el) cs):∃ (r:TyV) (p:LfV) (v:VaV) (o:OpV) (s1 s2:SL),cs=smc ⟨k,a,m,nm,r,hs,p,v,o,s1,s2⟩∧Dt h V ty (tyc r)∧Dt h V pl (lfc p)∧Dt h V va (vac v)∧Dt h V co (opc o)∧Sl h V s1 th∧Sl h V s2 el:=by
 simp only [smT,Dt,Dp] at x;obtain ⟨_,_,rfl,e1,_,_,rfl,e2,_,_,rfl,e3,_,_,rfl,e4,_,_,rfl,x5,_,_,rfl,e6,_,_,rfl,x7,_,_,rfl,x8,_,_,rfl,x9,_,_,rfl,x10,_,_,rfl,x11,rfl⟩:=x;subst e1 e2 e3 e4 e6;obtain ⟨r,rfl⟩:=pAc tt x5;obtain ⟨p,rfl⟩:=yA1 tp x7;obtain ⟨v,rfl⟩:=kAs tv x8;obtain ⟨o,rfl⟩:=aA2 tq x9;obtain ⟨s1,rfl,h1⟩:=dA0 x10;obtain ⟨s2,rfl,h2⟩:=dA0 x11;exact ⟨r,p,v,o,s1,s2,rfl,x5,x7,x8,x9,h1,h2⟩
theorem qAj {pub:Bool} {nm:Bs} {lv ps bd:List D} {ty:D} {a:Int} (tt:rTy ty) (x:Dt h V (fuT pub nm lv ps ty bd a) cs):∃ (s1 s2 s3:SL) (r:TyV),cs=fuc ⟨pub,nm,s1,s2,r,s3,a⟩∧Sl h V s1 lv∧Sl h V s2 ps∧Dt h V ty (tyc r)∧Sl h V s3 bd:=by
 simp only [fuT,Dt,Dp] at x;obtain ⟨_,_,rfl,e1,_,_,rfl,e2,_,_,rfl,x3,_,_,rfl,x4,_,_,rfl,x5,_,_,rfl,x6,_,_,rfl,e7,rfl⟩:=x;subst e1 e2 e7;obtain ⟨r,rfl⟩:=pAc tt x5;obtain ⟨s1,rfl,h1⟩:=dA0 x3;obtain ⟨s2,rfl,h2⟩:=dA0 x4;obtain ⟨s3,rfl,h3⟩:=dA0 x6;exact ⟨s1,s2,s3,r,rfl,h1,h2,x5,h3⟩
end
theorem gB4:Rec [(.int .i64),.str,.slice,.slice] 4 tyc rTy:=⟨fun _=>rfl,fun r K=>yR r K,fun t x=>pAc t x⟩
theorem lAs:Rec [.bool,.str,.slice,.slice,(.int .i64)] 5 stc rSt:=⟨fun _=>rfl,fun r K=>wAv r K,fun t x=>by
 obtain ⟨pub,nm,lv,fs,a,rfl,_⟩:=t;obtain ⟨s1,s2,hc,_⟩:=qA4 x;exact ⟨_,hc⟩⟩
theorem dAz:Rec [.str,.slice] 2 lfc rLf:=⟨fun _=>rfl,fun r K=>pM r K,fun t x=>yA1 t x⟩
theorem mAs:Rec [(.int .i64),(.int .i64),.str,.slice] 4 opc rOp:=⟨fun _=>rfl,fun r K=>iK r K,fun t x=>aA2 t x⟩
theorem lAn:Rec [(.int .i64),(.int .i64),.bool,.str,(.int .i64),.str,.slice,.slice,.bool,.str,.slice,(.int .i64),(.int .i64),(.int .i64),.str,.slice,(.int .i64),(.int .i64),.str,.slice,(.int .i64),.str,.slice,.str,.slice,.slice,(.int .i64),(.int .i64),.str,.slice,.slice,.slice] 32 smx rSm:=⟨fun _=>rfl,fun r K=>uG r K,fun t x=>by
  obtain ⟨k,a,m,nm,ty,hs,pl,va,co,th,el,rfl,t1,t2,t3,t4,_⟩:=t;obtain ⟨r,p,v,o,s1,s2,hc,_⟩:=pAj t1 t2 t3 t4 x;exact ⟨_,hc⟩⟩
theorem eAz:Rec [.bool,.str,.slice,.slice,(.int .i64),.str,.slice,.slice,.slice,(.int .i64)] 10 fux rFu:=⟨fun _=>rfl,fun r K=>rAt r K,fun t x=>by
 obtain ⟨pub,nm,lv,ps,ty,bd,a,rfl,ht,_⟩:=t;obtain ⟨s1,s2,s3,r,hc,_⟩:=qAj ht x;exact ⟨_,hc⟩⟩
noncomputable def rB5:Array Field:=match Tryz.prog.underlying 72 with | some (.struct fs)=>fs | _=>#[]
theorem pB6:Tryz.prog.underlying 72=some (.struct rB5):=by kernel_rfl
theorem qB6:rB5.toList.map (·.type)=[4,9,38,37,3]:=by kernel_rfl
noncomputable def tB5:Array Field:=match Tryz.prog.underlying 44 with | some (.struct fs)=>fs | _=>#[]
theorem rB6:Tryz.prog.underlying 44=some (.struct tB5):=by kernel_rfl
theorem tB6:tB5.toList.map (·.type)=[4,9,36,37,41,42,3]:=by kernel_rfl
noncomputable def fAz:Array Field:=match Tryz.prog.underlying 140 with | some (.struct fs)=>fs | _=>#[]
theorem iB4:Tryz.prog.underlying 140=some (.struct fAz):=by kernel_rfl
theorem jB4:fAz.toList.map (·.type)=[4,9,41]:=by kernel_rfl
noncomputable def uB5:Array Field:=match Tryz.prog.underlying 76 with | some (.struct fs)=>fs | _=>#[]
theorem uB6:Tryz.prog.underlying 76=some (.struct uB5):=by kernel_rfl
theorem vB6:uB5.toList.map (·.type)=[9,38]:=by kernel_rfl
noncomputable def vB5:Array Field:=match Tryz.prog.underlying 99 with | some (.struct fs)=>fs | _=>#[]
theorem wB6:Tryz.prog.underlying 99=some (.struct vB5):=by kernel_rfl
theorem yB6:vB5.toList.map (·.type)=[9,38]:=by kernel_rfl
noncomputable def gAz:Array Field:=match Tryz.prog.underlying 101 with | some (.struct fs)=>fs | _=>#[]
theorem kB4:Tryz.prog.underlying 101=some (.struct gAz):=by kernel_rfl
theorem lB4:gAz.toList.map (·.type)=[3,3,99]:=by kernel_rfl
noncomputable def iAz:Array Field:=match Tryz.prog.underlying 104 with | some (.struct fs)=>fs | _=>#[]
theorem mB4:Tryz.prog.underlying 104=some (.struct iAz):=by kernel_rfl
theorem nB4:iAz.toList.map (·.type)=[3,101,101,3,99,9,38,102]:=by kernel_rfl
noncomputable def jAz:Array Field:=match Tryz.prog.underlying 106 with | some (.struct fs)=>fs | _=>#[]
theorem oB4:Tryz.prog.underlying 106=some (.struct jAz):=by kernel_rfl
theorem pB4:jAz.toList.map (·.type)=[3,3,4,9,41,4,99,104,101,42,42]:=by kernel_rfl
noncomputable def wB5:Array Field:=match Tryz.prog.underlying 25 with | some (.struct fs)=>fs | _=>#[]
theorem yB5:Tryz.prog.underlying 25=some (.struct wB5):=by kernel_rfl
theorem aB7:wB5.toList.map (·.type)=[22,23]:=by kernel_rfl
theorem bB7:Tryz.prog.underlying 22=some (.slice 72):=by kernel_rfl
theorem cB7:Tryz.prog.underlying 23=some (.slice 44):=by kernel_rfl
theorem aB6:Tryz.prog.underlying 37=some (.slice 140):=by kernel_rfl
theorem dB7:Tryz.prog.underlying 36=some (.slice 76):=by kernel_rfl
theorem qB4:Tryz.prog.underlying 42=some (.slice 106):=by kernel_rfl
theorem rB4:Tryz.prog.underlying 102=some (.slice 101):=by kernel_rfl
theorem us4:Tryz.prog.underlying 4=some .bool:=by kernel_rfl
theorem tB4 {y:D} (x:Wt Tryz.prog y 41):rTy y:=by
 obtain ⟨k,nm,lv,el,h,_⟩:=tZ x;exact ⟨k,nm,lv,el,h⟩
theorem uB4 {y:D} (x:Wt Tryz.prog y 99):rLf y:=by
 obtain ⟨xs,rfl,hx⟩:=x.struct_inv wB6;obtain ⟨h1,h2⟩:=hx.of_types yB6
 match xs,h1,h2 with
 | [y0,y1],_,h2=>
  obtain ⟨nm,rfl,_⟩:=(h2 0 y0 9 rfl rfl).str_inv Tryz.underlying9;obtain ⟨l1,rfl,hl1,_⟩:=(h2 1 y1 38 rfl rfl).slice_inv qAh;obtain ⟨xs,rfl,_⟩:=hl1.strs Tryz.underlying9;exact ⟨nm,xs,rfl⟩
theorem eB7 {y:D} (x:Wt Tryz.prog y 76):rLf y:=by
 obtain ⟨xs,rfl,hx⟩:=x.struct_inv uB6;obtain ⟨h1,h2⟩:=hx.of_types vB6
 match xs,h1,h2 with
 | [y0,y1],_,h2=>
  obtain ⟨nm,rfl,_⟩:=(h2 0 y0 9 rfl rfl).str_inv Tryz.underlying9;obtain ⟨l1,rfl,hl1,_⟩:=(h2 1 y1 38 rfl rfl).slice_inv qAh;obtain ⟨xs,rfl,_⟩:=hl1.strs Tryz.underlying9;exact ⟨nm,xs,rfl⟩
theorem fB1 {y:D} (x:Wt Tryz.prog y 101):rOp y:=by
 obtain ⟨xs,rfl,hx⟩:=x.struct_inv kB4;obtain ⟨h1,h2⟩:=hx.of_types lB4
 match xs,h1,h2 with
 | [y0,y1,y2],_,h2=>
  obtain ⟨k,rfl,_⟩:=(h2 0 y0 3 rfl rfl).int_inv Tryz.underlying3;obtain ⟨n,rfl,_⟩:=(h2 1 y1 3 rfl rfl).int_inv Tryz.underlying3;exact ⟨k,n,y2,rfl,uB4 (h2 2 y2 99 rfl rfl)⟩
theorem fB7 {y:D} (x:Wt Tryz.prog y 104):rVa y:=by
 obtain ⟨xs,rfl,hx⟩:=x.struct_inv mB4;obtain ⟨h1,h2⟩:=hx.of_types nB4
 match xs,h1,h2 with
 | [y0,y1,y2,y3,y4,y5,y6,y7],_,h2=>
  obtain ⟨k,rfl,_⟩:=(h2 0 y0 3 rfl rfl).int_inv Tryz.underlying3;obtain ⟨o,rfl,_⟩:=(h2 3 y3 3 rfl rfl).int_inv Tryz.underlying3;obtain ⟨nm,rfl,_⟩:=(h2 5 y5 9 rfl rfl).str_inv Tryz.underlying9;obtain ⟨l6,rfl,hl6,_⟩:=(h2 6 y6 38 rfl rfl).slice_inv qAh;obtain ⟨ns,rfl,_⟩:=hl6.strs Tryz.underlying9;obtain ⟨ag,rfl,hl7,_⟩:=(h2 7 y7 102 rfl rfl).slice_inv rB4;exact ⟨k,y1,y2,o,y4,nm,ns,ag,rfl,fB1 (h2 1 y1 101 rfl rfl),fB1 (h2 2 y2 101 rfl rfl),uB4 (h2 4 y4 99 rfl rfl),fun d hd=>fB1 (hl7.mem d hd)⟩
theorem bB6 {y:D} (x:Wt Tryz.prog y 140):rFd y:=by
 obtain ⟨xs,rfl,hx⟩:=x.struct_inv iB4;obtain ⟨h1,h2⟩:=hx.of_types jB4
 match xs,h1,h2 with
 | [y0,y1,y2],_,h2=>
  obtain ⟨m,rfl⟩:=(h2 0 y0 4 rfl rfl).bool_inv us4;obtain ⟨nm,rfl,_⟩:=(h2 1 y1 9 rfl rfl).str_inv Tryz.underlying9;exact ⟨m,nm,y2,rfl,tB4 (h2 2 y2 41 rfl rfl),h2 2 y2 41 rfl rfl⟩
theorem gB7 {y:D} (x:Wt Tryz.prog y 72):rSt y:=by
 obtain ⟨xs,rfl,hx⟩:=x.struct_inv pB6;obtain ⟨h1,h2⟩:=hx.of_types qB6
 match xs,h1,h2 with
 | [y0,y1,y2,y3,y4],_,h2=>
  obtain ⟨pub,rfl⟩:=(h2 0 y0 4 rfl rfl).bool_inv us4;obtain ⟨nm,rfl,_⟩:=(h2 1 y1 9 rfl rfl).str_inv Tryz.underlying9;obtain ⟨l2,rfl,hl2,_⟩:=(h2 2 y2 38 rfl rfl).slice_inv qAh;obtain ⟨lv,rfl,_⟩:=hl2.strs Tryz.underlying9;obtain ⟨fs,rfl,hl3,_⟩:=(h2 3 y3 37 rfl rfl).slice_inv aB6;obtain ⟨a,rfl,_⟩:=(h2 4 y4 3 rfl rfl).int_inv Tryz.underlying3;exact ⟨pub,nm,lv,fs,a,rfl,fun d hd=>bB6 (hl3.mem d hd)⟩
theorem vB4 {y:D} (x:Wt Tryz.prog y 106):rSm y:=by
 obtain ⟨xs,rfl,hx⟩:=x.struct_inv oB4;obtain ⟨h1,h2⟩:=hx.of_types pB4
 match xs,h1,h2 with
 | [y0,y1,y2,y3,y4,y5,y6,y7,y8,y9,y10],_,h2=>
  obtain ⟨k,rfl,_⟩:=(h2 0 y0 3 rfl rfl).int_inv Tryz.underlying3;obtain ⟨a,rfl,_⟩:=(h2 1 y1 3 rfl rfl).int_inv Tryz.underlying3;obtain ⟨m,rfl⟩:=(h2 2 y2 4 rfl rfl).bool_inv us4;obtain ⟨nm,rfl,_⟩:=(h2 3 y3 9 rfl rfl).str_inv Tryz.underlying9;obtain ⟨hs,rfl⟩:=(h2 5 y5 4 rfl rfl).bool_inv us4;obtain ⟨th,rfl,hl9,_⟩:=(h2 9 y9 42 rfl rfl).slice_inv qB4;obtain ⟨el,rfl,hl10,_⟩:=(h2 10 y10 42 rfl rfl).slice_inv qB4;exact ⟨k,a,m,nm,y4,hs,y6,y7,y8,th,el,rfl,tB4 (h2 4 y4 41 rfl rfl),uB4 (h2 6 y6 99 rfl rfl),fB7 (h2 7 y7 104 rfl rfl),fB1 (h2 8 y8 101 rfl rfl),h2 4 y4 41 rfl rfl,hl9.mem,hl10.mem⟩
theorem iB7 {y:D} (x:Wt Tryz.prog y 44):rFu y:=by
 obtain ⟨xs,rfl,hx⟩:=x.struct_inv rB6;obtain ⟨h1,h2⟩:=hx.of_types tB6
 match xs,h1,h2 with
 | [y0,y1,y2,y3,y4,y5,y6],_,h2=>
  obtain ⟨pub,rfl⟩:=(h2 0 y0 4 rfl rfl).bool_inv us4;obtain ⟨nm,rfl,_⟩:=(h2 1 y1 9 rfl rfl).str_inv Tryz.underlying9;obtain ⟨lv,rfl,hl2,_⟩:=(h2 2 y2 36 rfl rfl).slice_inv dB7;obtain ⟨ps,rfl,hl3,_⟩:=(h2 3 y3 37 rfl rfl).slice_inv aB6;obtain ⟨bd,rfl,hl5,_⟩:=(h2 5 y5 42 rfl rfl).slice_inv qB4;obtain ⟨a,rfl,_⟩:=(h2 6 y6 3 rfl rfl).int_inv Tryz.underlying3;exact ⟨pub,nm,lv,ps,y4,bd,a,rfl,tB4 (h2 4 y4 41 rfl rfl),h2 4 y4 41 rfl rfl,fun d hd=>eB7 (hl2.mem d hd),fun d hd=>bB6 (hl3.mem d hd),hl5.mem⟩
theorem jB7 {y:D} (x:Wt Tryz.prog y 25):∃ xs ys,y=crD xs ys∧(∀ d∈xs,rSt d)∧∀ d∈ys,rFu d:=by
 obtain ⟨xs,rfl,hx⟩:=x.struct_inv yB5;obtain ⟨h1,h2⟩:=hx.of_types aB7
 match xs,h1,h2 with
 | [y0,y1],_,h2=>
  obtain ⟨xs,rfl,hl0,_⟩:=(h2 0 y0 22 rfl rfl).slice_inv bB7;obtain ⟨ys,rfl,hl1,_⟩:=(h2 1 y1 23 rfl rfl).slice_inv cB7;exact ⟨xs,ys,rfl,fun d hd=>gB7 (hl0.mem d hd),fun d hd=>iB7 (hl1.mem d hd)⟩
theorem wB4:dB Tryz.prog [25,22,23,72,44,4,9,38,37,3,36,41,42,140,76,39,106,99,104,101,102]=true:=by kernel_rfl
end Qp
set_option maxRecDepth 20000
namespace Qp
section
variable {N:Nat} {h:Heap} {V:Nat→Prop}
theorem tAe (hN:100≤N) {P:Nat} {nm:Bs} {s:SL} {xs:List Bs}:∀ (M i:Nat) (h:Heap),i≤xs.length→i≤65→65-i<M→h.own P (lfc (nm,s,()))→Sl h V s (xs.map D.s)→(∀ j,(hj:j<xs.length)→j<i→eA8 xs[j])→
  ∃ o b h',eV N M (some (P,0)) false (i:Int) h=some (o,(some (P,0),b,()),h')∧Chg [] h h'∧((o=.exit 0∧(xs.length≤64→∀ y∈xs,eA8 y))∨(o=.ret∧b=false)):=by
 intro M
 induction M with
 | zero=>intro i h _ _ h;omega
 | succ M ih=>
  intro i h hi h65 hM o x hp;rw [lA5];unfold dV;have a1:h.cell (P,1)=some (.slice s.a s.len s.cap s.sz):=o.cell 1;have hv:s.len=xs.length:=by rw [x.len,List.length_map]
  have z:ltInt (i:Int) 65=decide (i<65):=aC i 65;have done:¬ i<xs.length∨¬ i<65→xs.length≤64→∀ y∈xs,eA8 y:=fun hd hl y hy=>by
   obtain ⟨j,hj,rfl⟩:=List.getElem_of_mem hy;exact hp j hj (by omega)
  simp only [fA,Nat.zero_add,Nat.add_zero,a1,bA,jA,vF,hv,z]
  by_cases q:i<xs.length
  ·by_cases q2:i<65
   ·simp only [q,q2,decide_true,cond_true]
    have hix:∀ {β:Type} (K:Nat×Nat→Option β),ixK s.a xs.length (i:Int) 1 K=K (s.at i 1):=fun K=>by rw [← hv];exact x.ix (by rw [List.length_map];exact q) 1 K
    rw [hix,gK x q];simp only [bA,qA];have nxt:∀ (H:Heap),Chg [] h H→eA8 xs[i]→∃ o b h',eV N M (some (P,0)) false (bB .i64 ((i:Int)+1)) H=some (o,(some (P,0),b,()),h')∧Chg [] h h'∧((o=.exit 0∧(xs.length≤64→∀ y∈xs,eA8 y))∨(o=.ret∧b=false)):=by
     intro H c hs;rw [eB (by omega)];obtain ⟨o',b,h',e,c',hh⟩:=ih (i+1) H q (by omega) (by omega) (o.chg c (by simp)) (x.chg c (by simp)) fun j hj hji=>by
      by_cases e:j=i
      ·subst e;exact hs
      ·exact hp j hj (by omega)
     exact ⟨o',b,h',e,c.trans c',hh⟩
    cases hb:aB xs[i] [42] with
    | true=>
     simp only [Bool.not_true,cond_false];exact nxt h (Chg.refl _ _) (.inl (by rw [fE] at hb;exact eq_of_beq hb))
    | false=>
     simp only [Bool.not_false,cond_true];rw [hix,gK x q];simp only [bA,qA];obtain ⟨h8,e8,c8⟩:=gI (N:=N) (by omega) xs[i] h;rw [e8,aA]
     cases hn:yC xs[i] with
     | false=>
      simp only [Bool.not_false,cond_true];exact ⟨_,_,h8,rfl,c8,.inr ⟨rfl,rfl⟩⟩
     | true=>
      simp only [Bool.not_true,cond_false];exact nxt h8 c8 (.inr hn)
   ·simp only [q,q2,decide_true,decide_false,cond_true,cond_false]
    exact ⟨_,_,_,rfl,Chg.refl _ _,.inl ⟨rfl,done (.inr q2)⟩⟩
  ·simp only [q,decide_false,cond_false]
   exact ⟨_,_,_,rfl,Chg.refl _ _,.inl ⟨rfl,done (.inl q)⟩⟩
theorem dS (hN:100≤N) {p:D} (hp:rLf p) {r:LfV} (x:Dt h V p (lfc r)):∃ b h',f135 N r h=some (b,h')∧Chg [] h h'∧(b=true→qL p):=by
 obtain ⟨nm,xs,rfl⟩:=hp;obtain ⟨s,hc,y⟩:=oI x;obtain rfl:=dAz.inj (r':=(nm,s,())) hc
 clear x
 unfold f135;have o:=vA h (lfc (nm,s,()));have c:=uA h (.row (lfc (nm,s,())) .own);have e1:h.push (.row [(.str nm),(.slice s.a s.len s.cap s.sz)] .own)=h.push (.row (lfc (nm,s,())) .own):=rfl;dsimp only;rw [e1];have x:=y.chg c (by simp);generalize h.push (.row (lfc (nm,s,())) .own)=H at *;have hv:s.len=xs.length:=by rw [x.len,List.length_map]
 obtain ⟨o',b,H2,e,c2,hh⟩:=tAe (N:=N) hN N 0 H (Nat.zero_le _) (by omega) (by omega) o x fun j _ h=>by omega
 rw [show ((0:Nat):Int)=0 from rfl] at e;rw [e,mB];have c02:=c.trans c2;rcases hh with ⟨rfl,hh⟩ | ⟨rfl,rfl⟩
 ·have o2:=o.chg c2 (by simp)
  have a0:H2.cell (h.next,0)=some (.str nm):=o2.cell 0;simp only [mC,decide_true,cond_true,fA,Nat.zero_add,Nat.add_zero,a0,bA,qA];obtain ⟨H3,e3,c3⟩:=gI (N:=N) (by omega) nm H2;rw [e3,aA];have a1:H3.cell (h.next,1)=some (.slice s.a s.len s.cap s.sz):=(o2.chg c3 (by simp)).cell 1
  cases hn:yC nm with
  | false=>exact ⟨_,H3,rfl,c02.trans c3,fun h=>by cases h⟩
  | true=>
   simp only [cond_true,a1,bA,jA];have z:wB (Int.ofNat s.len) 64=decide (xs.length≤64):=by rw [hv];exact kA4 _ 64
   rw [z];exact ⟨_,H3,rfl,c02.trans c3,fun hd=>⟨nm,xs,rfl,hn,of_decide_eq_true hd,hh (of_decide_eq_true hd)⟩⟩
 ·simp only [eH,cond_false]
  exact ⟨_,H2,rfl,c02,fun h=>by cases h⟩
theorem yF {p:D} (hp:rLf p) {r:LfV} (x:Dt h V p (lfc r)) (hz:zLf r=true):p=pl0:=by
 obtain ⟨nm,xs,rfl⟩:=hp;obtain ⟨s,hc,y⟩:=oI x;obtain rfl:=dAz.inj (r':=(nm,s,())) hc
 clear x
 unfold zLf at hz;rw [Bool.and_eq_true] at hz;have h1:=kAn.1 hz.1;have h2:=wQ.1 hz.2;rw [y.len,List.length_map] at h2;obtain rfl:=List.length_eq_zero_iff.1 h2;dsimp only at h1;rw [h1];rfl
theorem aG {d:D} (hd:rOp d) {r:OpV} (x:Dt h V d (opc r)) (hz:zOp r=true):d=op0:=by
 obtain ⟨k,n,pl,rfl,hp⟩:=hd;obtain ⟨p,hc,xp⟩:=oAj hp x;obtain rfl:=mAs.inj (r':=(k,n,p.1,p.2.1,())) hc;unfold zOp at hz;rw [Bool.and_eq_true,Bool.and_eq_true] at hz;obtain ⟨h1,h2,h3⟩:=hz;have h1:k=0:=lAj.1 h1;have h2:n=0:=lAj.1 h2;have h3:=yF hp xp h3;rw [h1,h2,h3];rfl
theorem kO {d:D} (hd:rTy d) {r:TyV} (x:Dt h V d (tyc r)) (hz:zTy r=true):d=ty0D:=by
 obtain ⟨k,y,lv,el,rfl⟩:=hd;obtain ⟨s1,s2,hc,x1,x2⟩:=jG.1 x;obtain rfl:=gB4.inj (r':=(k,y,s1,s2,())) hc;unfold zTy at hz;rw [Bool.and_eq_true,Bool.and_eq_true,Bool.and_eq_true] at hz;obtain ⟨h1,h2,h3,h4⟩:=hz;have h1:k=0:=lAj.1 h1;have h2:y=[]:=kAn.1 h2;have h3:=wQ.1 h3;have h4:=wQ.1 h4;rw [x1.len,List.length_map] at h3;rw [x2.len] at h4;obtain rfl:=List.length_eq_zero_iff.1 h3;obtain rfl:=List.length_eq_zero_iff.1 h4;rw [h1,h2];rfl
theorem lL (hN:100≤N) {d:D} (hd:rOp d) {r:OpV} (x:Dt h V d (opc r)):∃ b h',f137 N r h=some (b,h')∧Chg [] h h'∧(b=true→oD d):=by
 obtain ⟨k,n,pl,rfl,hp⟩:=hd;obtain ⟨p,hc,xp⟩:=oAj hp x;obtain rfl:=mAs.inj (r':=(k,n,p.1,p.2.1,())) hc;unfold f137;have o:=vA h (opc (k,n,p.1,p.2.1,()));have c:=uA h (.row (opc (k,n,p.1,p.2.1,())) .own);have e1:h.push (.row [(.int .i64 k),(.int .i64 n),(.str p.1),(.slice p.2.1.a p.2.1.len p.2.1.cap p.2.1.sz)] .own)=h.push (.row (opc (k,n,p.1,p.2.1,())) .own):=rfl;dsimp only;rw [e1];have xp:=Dt.chg c (by simp) xp;generalize h.push (.row (opc (k,n,p.1,p.2.1,())) .own)=H at *;have a0:H.cell (h.next,0)=some (.int .i64 k):=o.cell 0;have a1:H.cell (h.next,1)=some (.int .i64 n):=o.cell 1;have a2:H.cells (h.next,2) 2=some (.agg (lfc p)):=o.cells (j:=2) (m:=2) (show 2+2≤4 by decide);simp only [Nat.zero_add,a0,a1,bA,fB];simp only [a2,pM];obtain ⟨H3,e3,c3⟩:=aAz (N:=N) p H;have e3':f182 N ((p.1,p.2.1,()):LfV) H=some (zLf p,H3):=e3;have nw:∃ h',(kA (f182 N ((p.1,p.2.1,()):LfV) H) fun (x9:Bool) h10=>some (x9,h10))=some (zLf p,h')∧Chg [] h h':=⟨H3,by rw [e3'];rfl,c.trans c3⟩;obtain ⟨H5,e5,c5⟩:=nw;simp only [e5]
 by_cases k1:k=1
 ·subst k1
  simp only [show iA 1 1=true from rfl,cond_true]
  cases q1:wB 0 n with
  | false=>exact ⟨_,H,rfl,c,fun h=>by cases h⟩
  | true=>
   cases q2:wB n 2147483647 with
   | false=>exact ⟨_,H,rfl,c,fun h=>by cases h⟩
   | true=>
    refine ⟨_,H5,rfl,c5,fun hz=>?_⟩;rw [leI,decide_eq_true_eq] at q1 q2;obtain rfl:=yF hp xp hz;refine .inl ⟨n.toNat,?_,by omega⟩;rw [Int.toNat_of_nonneg q1]
 have z1:iA k 1=false:=by rw [eqI];exact decide_eq_false k1
 by_cases k2:k=2
 ·subst k2
  simp only [show iA 2 1=false from rfl,show iA 2 2=true from rfl,cond_true,cond_false]
  cases q1:iA n 0 with
  | true=>
   refine ⟨_,H5,rfl,c5,fun hz=>?_⟩;rw [eqI,decide_eq_true_eq] at q1;obtain rfl:=yF hp xp hz;exact .inr (.inl ⟨n,.inl q1,rfl⟩)
  | false=>
   cases q2:iA n 1 with
   | false=>exact ⟨_,H,rfl,c,fun h=>by cases h⟩
   | true=>
    refine ⟨_,H5,rfl,c5,fun hz=>?_⟩;rw [eqI,decide_eq_true_eq] at q2;obtain rfl:=yF hp xp hz;exact .inr (.inl ⟨n,.inr q2,rfl⟩)
 have z2:iA k 2=false:=by rw [eqI];exact decide_eq_false k2
 by_cases k3:k=3
 ·subst k3
  simp only [show iA 3 1=false from rfl,show iA 3 2=false from rfl,show iA 3 3=true from rfl,cond_true,cond_false]
  cases q1:iA n 0 with
  | false=>exact ⟨_,H,rfl,c,fun h=>by cases h⟩
  | true=>
   rw [eqI,decide_eq_true_eq] at q1;obtain ⟨b,H6,e6,c6,hb⟩:=dS (N:=N) hN hp xp;have e6':f135 N ((p.1,p.2.1,()):LfV) H=some (b,H6):=e6;refine ⟨b,H6,by rw [e6'];rfl,c.trans c6,fun hz=>?_⟩;rw [q1];exact .inr (.inr ⟨pl,rfl,hb hz⟩)
 have z3:iA k 3=false:=by rw [eqI];exact decide_eq_false k3
 rw [z1,z2,z3];exact ⟨_,H,rfl,c,fun h=>by cases h⟩
end
end Qp
namespace Qp
theorem bY {k o:Int} {ra rb:OpV} {rp:LfV} {nm:Bs} {s1 s2:SL} (hz:zVa (fI k ra rb o rp nm s1 s2)=true):k=0∧o=0∧nm=[]∧zOp ra=true∧zOp rb=true∧zLf rp=true∧s1.len=0∧s2.len=0:=by
 unfold zVa at hz;simp only [Bool.and_eq_true] at hz;obtain ⟨h1,h2,h3,h4,h5,h6,h7,h8⟩:=hz;exact ⟨lAj.1 h1,lAj.1 h2,kAn.1 h3,h4,h5,h6,wQ.1 h7,wQ.1 h8⟩
section
variable {N:Nat} {h:Heap} {V:Nat→Prop}
theorem uAe (hN:100≤N) {P Q:Nat} {r:VaV} {ag:List D} (hg:∀ o∈ag,rOp o):∀ (M i:Nat) (v:Bool) (H:Heap),i≤ag.length→(v=true→ag.length≤64)→66-i<M→H.own P (vac r)→Sl H V (vaG r) ag→(v=true→∀ j,(hj:j<ag.length)→j<i→oD ag[j])→
  ∃ b H',qA1 N M (some (P,0)) (some (Q,0)) v (i:Int) H=some (.exit 1,(some (P,0),some (Q,0),b,()),H')∧Chg [] H H'∧(b=true→v=true∧jP 64 oD ag):=by
 intro M
 induction M with
 | zero=>intro i v H _ _ h;omega
 | succ M ih=>
  intro i v H hi hv hM o x hp;rw [oA5];unfold iV;have a1:H.cell (P,14)=some (.slice (vaG r).a (vaG r).len (vaG r).cap (vaG r).sz):=o.cell 14;have hl:(vaG r).len=ag.length:=x.len;simp only [fA,Nat.zero_add,a1,bA,jA,vF,hl]
  by_cases q:i<ag.length
  ·simp only [q,decide_true,cond_true]
   cases v with
   | false=>
    simp only [cond_false];exact ⟨_,H,rfl,Chg.refl _ _,fun h=>by cases h⟩
   | true=>
    have h64:=hv rfl;simp only [cond_true];obtain ⟨ro,g,d⟩:=mAs.elt x q (hg _ (List.getElem_mem q));have hix:∀ {β:Type} (K:Nat×Nat→Option β),ixK (vaG r).a ag.length (i:Int) 4 K=K ((vaG r).at i 4):=fun K=>by rw [← hl];exact x.ix q 4 K
    rw [hix,g,iK];obtain ⟨b,H3,e3,c3,hb⟩:=lL (N:=N) hN (hg _ (List.getElem_mem q)) d;have e3':f137 N (ro.1,ro.2.1,ro.2.2.1,ro.2.2.2.1,()) H=some (b,H3):=e3;rw [e3',aA,eB (by omega)];obtain ⟨b',H4,e4,c4,h4⟩:=ih (i+1) b H3 q (fun _=>h64) (by omega) (o.chg c3 (by simp)) (x.chg c3 (by simp)) fun hbt j hj hji=>by
     by_cases e:j=i
     ·subst e;exact hb hbt
     ·exact hp rfl j hj (by omega)
    exact ⟨b',H4,e4,c3.trans c4,fun hbt=>⟨by trivial,(h4 hbt).2⟩⟩
  ·simp only [q,decide_false,cond_false]
   refine ⟨v,H,rfl,Chg.refl _ _,fun hvt=>⟨hvt,hv hvt,fun y hy=>?_⟩⟩;obtain ⟨j,hj,rfl⟩:=List.getElem_of_mem hy;exact hp hvt j hj (by omega)
theorem rA9 (hN:100≤N) {P Q:Nat} {r:VaV} {ns:List Bs}:∀ (M i:Nat) (v:Bool) (H:Heap),i≤ns.length→(v=true→ns.length≤64)→66-i<M→H.own P (vac r)→Sl H V (vaS r) (ns.map D.s)→(v=true→∀ j,(hj:j<ns.length)→j<i→yC ns[j]=true)→
  ∃ b H',pA1 N M (some (P,0)) (some (Q,0)) v (i:Int) H=some (.exit 3,(some (Q,0),b,()),H')∧Chg [] H H'∧(b=true→v=true∧∀ x∈ns,yC x=true):=by
 intro M
 induction M with
 | zero=>intro i v H _ _ h;omega
 | succ M ih=>
  intro i v H hi hv hM o x hp;rw [nA5];unfold gV;have a1:H.cell (P,13)=some (.slice (vaS r).a (vaS r).len (vaS r).cap (vaS r).sz):=o.cell 13;have hl:(vaS r).len=ns.length:=by rw [x.len,List.length_map]
  simp only [fA,Nat.zero_add,a1,bA,jA,vF,hl]
  by_cases q:i<ns.length
  ·simp only [q,decide_true,cond_true]
   cases v with
   | false=>
    simp only [cond_false];exact ⟨_,H,rfl,Chg.refl _ _,fun h=>by cases h⟩
   | true=>
    have h64:=hv rfl;simp only [cond_true];have hix:∀ {β:Type} (K:Nat×Nat→Option β),ixK (vaS r).a ns.length (i:Int) 1 K=K ((vaS r).at i 1):=fun K=>by rw [← hl];exact x.ix (by rw [List.length_map];exact q) 1 K
    rw [hix,gK x q];simp only [bA,qA];obtain ⟨H3,e3,c3⟩:=gI (N:=N) (by omega) ns[i] H;rw [e3,aA,eB (by omega)];obtain ⟨b',H4,e4,c4,h4⟩:=ih (i+1) (yC ns[i]) H3 q (fun _=>h64) (by omega) (o.chg c3 (by simp)) (x.chg c3 (by simp)) fun hbt j hj hji=>by
     by_cases e:j=i
     ·subst e;exact hbt
     ·exact hp rfl j hj (by omega)
    exact ⟨b',H4,e4,c3.trans c4,fun hbt=>⟨by trivial,(h4 hbt).2⟩⟩
  ·simp only [q,decide_false,cond_false]
   refine ⟨v,H,rfl,Chg.refl _ _,fun hvt=>⟨hvt,fun y hy=>?_⟩⟩;obtain ⟨j,hj,rfl⟩:=List.getElem_of_mem hy;exact hp hvt j hj (by omega)
set_option maxHeartbeats 2000000 in
theorem bA2 (hN:100≤N) {d:D} (hd:rVa d) (hw:wtD d<N) {r:VaV} (x:Dt h V d (vac r)) (hwl:wtD d≤9223372036854775807):∃ b h',f136 N r h=some (b,h')∧Chg [] h h'∧(b=true→mayVa d):=by
 obtain ⟨k,a,b,op,pl,nm,ns,ag,rfl,ta,tb,tp,tg⟩:=hd;have x:=Dt.weak (W:=fun A=>A<h.next) (fun A _ hl=>hl) x;obtain ⟨ra,rb,rp,s1,s2,hc,xa,xb,xp,y1,y2⟩:=qAc ta tb tp x;obtain ⟨r',hr⟩:∃ r':VaV,r'=fI k ra rb op rp nm s1 s2:=⟨_,rfl⟩;obtain rfl:r=r':=by rw [hr];exact mK hc
 clear hc x
 unfold f136;have o:=vA h (vac r);have c:=uA h (.row (vac r) .own);have e1:h.push (.row (yRB r) .own)=h.push (.row (vac r) .own):=rfl;dsimp only;rw [e1];have xa:=Dt.chg c (by simp) xa;have xb:=Dt.chg c (by simp) xb;have xp:=Dt.chg c (by simp) xp;have y1:=y1.chg c (by simp);have y2:=y2.chg c (by simp);generalize h.push (.row (vac r) .own)=H1 at *;have aa:H1.cells (h.next,0) 15=some (.agg (vac r)):=o.cells (j:=0) (m:=15) (Nat.le_refl _);rw [aa,pV];have oz:=vA H1 (vac va0);have cz:=uA H1 (.row (vac va0) .own);have nz:(H1.push (.row (vac va0) .own)).next=H1.next+1:=rfl;have hst:(H1.push (.row (vac va0) .own)).store (H1.next,0) (vac r)=some ((H1.push (.row (vac va0) .own)).put H1.next (.row (vac r) .own)):=oz.store rfl;obtain ⟨H2,hH2⟩:∃ H2,H2=(H1.push (.row (vac va0) .own)).put H1.next (.row (vac r) .own):=⟨_,rfl⟩;have w:W1 H1 H2 (vac r):=by rw [hH2];exact ⟨fK oz _,cz.put (.inr (Nat.le_refl _)) _,Nat.le_refl _⟩
 rw [← hH2] at hst;have hz:∀ {β:Type} (K:Heap→Option β),tA ((H1.push (.row yZB .own)).store (H1.next,0) (yRB r)) K=K H2:=fun K=>by
  show tA ((H1.push (.row (vac va0) .own)).store (H1.next,0) (vac r)) K=_;rw [hst,fA]
 rw [hz]
 clear hz hst hH2 cz nz oz
 have hlt:h.next<H1.next:=o.2;have o2:=o.chg w.c (by simp);obtain ⟨H3,p3,w3,c3,n3⟩:=w.set (j:=0) (vs:=[(.int .i64 0)]) (show 0+1≤15 by decide) (ds:=vac (fI 0 ra rb op rp nm s1 s2)) (by rw [hr];rfl);simp only [Nat.zero_add,Nat.add_zero];rw [p3];have oo:∀ {G:Heap} {cs:List AV},W1 H1 G cs→G.own h.next (vac r):=fun w=>o.chg w.c (by simp);have o3:=oo w3;have a0:H3.cell (h.next,0)=some (.int .i64 k):=by
  have:=o3.cell 0
  rw [hr] at this;exact this
 have rd1:∀ {G:Heap},G.own h.next (vac r)→G.cells (h.next,1) 4=some (.agg (opc ra)):=fun o=>by
  have:=o.cells (j:=1) (m:=4) (show 1+4≤15 by decide)
  rw [hr] at this;exact this
 have rd5:∀ {G:Heap},G.own h.next (vac r)→G.cells (h.next,5) 4=some (.agg (opc rb)):=fun o=>by
  have:=o.cells (j:=5) (m:=4) (show 5+4≤15 by decide)
  rw [hr] at this;exact this
 have rd9:∀ {G:Heap},G.own h.next (vac r)→G.cell (h.next,9)=some (.int .i64 op):=fun o=>by
  have:=o.cell 9
  rw [hr] at this;exact this
 have rd10:∀ {G:Heap},G.own h.next (vac r)→G.cells (h.next,10) 2=some (.agg (lfc rp)):=fun o=>by
  have:=o.cells (j:=10) (m:=2) (show 10+2≤15 by decide)
  rw [hr] at this;exact this
 have rd12:∀ {G:Heap},G.own h.next (vac r)→G.cell (h.next,12)=some (.str nm):=fun o=>by
  have:=o.cell 12
  rw [hr] at this;exact this
 have rd13:∀ {G:Heap},G.own h.next (vac r)→G.cell (h.next,13)=some (.slice s1.a s1.len s1.cap s1.sz):=fun o=>by
  have:=o.cell 13
  rw [hr] at this;exact this
 have rd14:∀ {G:Heap},G.own h.next (vac r)→G.cell (h.next,14)=some (.slice s2.a s2.len s2.cap s2.sz):=fun o=>by
  have:=o.cell 14
  rw [hr] at this;exact this
 have hS:vaS r=s1:=by rw [hr];rfl
 have hG:vaG r=s2:=by rw [hr];rfl
 -- the last step
 have fin:∀ {H:Heap} {z:VaV} (ok:Bool),W1 H1 H (vac z)→∃ b h',(bif ok then dA (.val yV) (H.cells (H1.next,0) 15) fun x170=>kA (f181 N (tV x170) oV H) fun x1 h2=>some (x1,h2) else some (false,H))=some (b,h')∧Chg [] h h'∧(b=true→ok=true∧zVa z=true):=by
  intro H z ok wz
  cases ok with
  | false=>exact ⟨_,H,rfl,c.trans wz.c,fun h=>by cases h⟩
  | true=>
   have ab:H.cells (H1.next,0) 15=some (.agg (vac z)):=wz.o.cells (j:=0) (m:=15) (Nat.le_refl _);rw [ab,pV];obtain ⟨h',e,c2⟩:=wAo (N:=N) (by omega) z H;have e':f181 N (tV z) oV H=some (zVa z,h'):=e;exact ⟨zVa z,h',by rw [cond_true,e'];rfl,(c.trans wz.c).trans c2,fun hz=>⟨rfl,hz⟩⟩
 have up:∀ {G:Heap} {cs:List AV} {d:D} {ds:List AV},W1 H1 G cs→Dt H1 (fun A=>A<h.next) d ds→Dt G (fun A=>A<h.next) d ds:=fun w y=>Dt.chg w.c (by simp) y;have upS:∀ {G:Heap} {cs:List AV} {l:List D} {s:SL},W1 H1 G cs→Sl H1 (fun A=>A<h.next) s l→Sl G (fun A=>A<h.next) s l:=fun w y=>y.chg w.c (by simp);have hns:(s1.len=0)→ns=[]:=fun h0=>by
  have:=y1.len
  rw [List.length_map,h0] at this;exact List.length_eq_zero_iff.1 this.symm
 have hag:(s2.len=0)→ag=[]:=fun h0=>by
  have:=y2.len
  rw [h0] at this;exact List.length_eq_zero_iff.1 this.symm
 simp only [bA,a0,fB];have wa:wtD a≤wtD (vaD k a b op pl nm (ns.map D.s) ag):=by simp only [vaD,wtD,wtL];omega
 have wn:nm.length<wtD (vaD k a b op pl nm (ns.map D.s) ag):=by simp only [vaD,wtD,wtL];omega
 -- an operand
 have opn:(k=1∨k=4)→∃ b' h',(dA (.val zD) (H3.cells (h.next,1) 4) fun (x12:OpV)=>
   (kA (f137 N (x12.1,x12.2.1,x12.2.2.1,x12.2.2.2.1,()) H3) fun (x13:Bool) h14=>(tA (h14.store (H1.next,1) [(.int .i64 0),(.int .i64 0),(.str []),(.slice none 0 0 0)]) fun h16=>
   (bif x13 then dA (.val yV) (h16.cells (H1.next,0) 15) fun x170=>kA (f181 N (tV x170) oV h16) fun x1 h2=>some (x1,h2) else some (false,h16)))))=some (b',h')∧Chg [] h h'∧(b'=true→mayVa (vaD k a b op pl nm (ns.map D.s) ag)):=by
  intro hk;rw [rd1 o3,iK];obtain ⟨q,H4,e4,c4,hq⟩:=lL (N:=N) hN ta (up w3 xa);have e4':f137 N (ra.1,ra.2.1,ra.2.2.1,ra.2.2.2.1,()) H3=some (q,H4):=e4;rw [e4',aA];obtain ⟨H5,p5,w5,c5,n5⟩:=(w3.call c4).set (j:=1) (vs:=[(.int .i64 0),(.int .i64 0),(.str []),(.slice none 0 0 0)]) (show 1+4≤15 by decide) (ds:=vac (fI 0 eI rb op rp nm s1 s2)) rfl;rw [p5];obtain ⟨b',h',e,c',hb⟩:=fin q w5;refine ⟨b',h',e,c',fun ht=>?_⟩;obtain ⟨h1,h2⟩:=hb ht;obtain ⟨_,z1,z2,_,z4,z5,z6,z7⟩:=bY h2;obtain rfl:=aG tb xb z4;obtain rfl:=yF tp xp z5;obtain rfl:=hns z6;obtain rfl:=hag z7;subst z1 z2;rcases hk with rfl | rfl
  ·exact mayVa.op (hq h1)
  ·exact mayVa.no (hq h1)
 by_cases k1:k=1
 ·have q1:iA k 1=true:=by rw [k1];rfl
  simp only [q1,cond_true,aA,fA,Nat.zero_add];exact opn (.inl k1)
 have q1:iA k 1=false:=by rw [eqI];exact decide_eq_false k1
 by_cases k4:k=4
 ·have q4:iA k 4=true:=by rw [k4];rfl
  simp only [q1,q4,cond_true,cond_false,aA,fA,Nat.zero_add];exact opn (.inr k4)
 have q4:iA k 4=false:=by rw [eqI];exact decide_eq_false k4
 -- a place
 have plc:(k=2∨k=3)→∃ b' h',(dA (.val zG) (H3.cells (h.next,10) 2) fun (x12:LfV)=>
   (kA (f135 N (x12.1,x12.2.1,()) H3) fun (x13:Bool) h14=>(tA (h14.store (H1.next,10) [(.str []),(.slice none 0 0 0)]) fun h16=>
   (bif x13 then dA (.val yV) (h16.cells (H1.next,0) 15) fun x170=>kA (f181 N (tV x170) oV h16) fun x1 h2=>some (x1,h2) else some (false,h16)))))=some (b',h')∧Chg [] h h'∧(b'=true→mayVa (vaD k a b op pl nm (ns.map D.s) ag)):=by
  intro hk;rw [rd10 o3,pM];obtain ⟨q,H4,e4,c4,hq⟩:=dS (N:=N) hN tp (up w3 xp);have e4':f135 N (rp.1,rp.2.1,()) H3=some (q,H4):=e4;rw [e4',aA];obtain ⟨H5,p5,w5,c5,n5⟩:=(w3.call c4).set (j:=10) (vs:=[(.str []),(.slice none 0 0 0)]) (show 10+2≤15 by decide) (ds:=vac (fI 0 ra rb op lf0 nm s1 s2)) rfl;rw [p5];obtain ⟨b',h',e,c',hb⟩:=fin q w5;refine ⟨b',h',e,c',fun ht=>?_⟩;obtain ⟨h1,h2⟩:=hb ht;obtain ⟨_,z1,z2,z3,z4,_,z6,z7⟩:=bY h2;obtain rfl:=aG ta xa z3;obtain rfl:=aG tb xb z4;obtain rfl:=hns z6;obtain rfl:=hag z7;subst z1 z2;exact mayVa.ref hk (hq h1)
 by_cases k2:k=2
 ·have q2:iA k 2=true:=by rw [k2];rfl
  simp only [q1,q4,q2,cond_true,cond_false,aA,fA,Nat.zero_add];exact plc (.inl k2)
 have q2:iA k 2=false:=by rw [eqI];exact decide_eq_false k2
 by_cases k3:k=3
 ·have q3:iA k 3=true:=by rw [k3];rfl
  simp only [q1,q4,q2,q3,cond_true,cond_false,aA,fA,Nat.zero_add];exact plc (.inr k3)
 have q3:iA k 3=false:=by rw [eqI];exact decide_eq_false k3
 by_cases k5:k=5
 ·have q5:iA k 5=true:=by rw [k5];rfl
  simp only [q1,q2,q3,q4,q5,cond_true,cond_false,aA,fA,Nat.zero_add];have two:∃ ok H4,(dA (.val zD) (H3.cells (h.next,1) 4) fun (x37:OpV)=>kA (f137 N (x37.1,x37.2.1,x37.2.2.1,x37.2.2.2.1,()) H3) fun (x38:Bool) h39=>
    bif x38 then dA (.val zD) (h39.cells (h.next,5) 4) fun (x41:OpV)=>kA (f137 N (x41.1,x41.2.1,x41.2.2.1,x41.2.2.2.1,()) h39) fun (x42:Bool) h43=>
     bif x42 then dA (.val zJ2) (h43.cell (h.next,9)) fun (x45:Int)=>bif wB 1 x45 then dA (.val zJ2) (h43.cell (h.next,9)) fun (x48:Int)=>some (((some (H1.next,0),wB x48 4,()):zE2×Bool×Unit),h43)
      else some ((some (H1.next,0),false,()),h43)
     else some ((some (H1.next,0),false,()),h43)
    else some ((some (H1.next,0),false,()),h39))=some ((some (H1.next,0),ok,()),H4)∧Chg [] H3 H4∧(ok=true→oD a∧oD b∧1≤op∧op≤4):=by
   rw [rd1 o3,iK];obtain ⟨u1,H4,e4,c4,hu1⟩:=lL (N:=N) hN ta (up w3 xa);have e4':f137 N (ra.1,ra.2.1,ra.2.2.1,ra.2.2.2.1,()) H3=some (u1,H4):=e4;rw [e4',aA]
   cases u1 with
   | false=>exact ⟨_,H4,rfl,c4,fun h=>by cases h⟩
   | true=>
    have w4:=w3.call c4;simp only [cond_true];rw [rd5 (oo w4),iK];obtain ⟨u2,H5,e5,c5,hu2⟩:=lL (N:=N) hN tb (up w4 xb);have e5':f137 N (rb.1,rb.2.1,rb.2.2.1,rb.2.2.2.1,()) H4=some (u2,H5):=e5;rw [e5',aA];have c45:=c4.trans c5
    cases u2 with
    | false=>exact ⟨_,H5,rfl,c45,fun h=>by cases h⟩
    | true=>
     simp only [cond_true,rd9 (oo (w4.call c5)),bA,fB]
     cases z:wB 1 op with
     | false=>exact ⟨_,H5,rfl,c45,fun h=>by cases h⟩
     | true=>
      rw [leI,decide_eq_true_eq] at z;refine ⟨_,H5,rfl,c45,fun hz=>⟨hu1 rfl,hu2 rfl,z,?_⟩⟩;rw [leI,decide_eq_true_eq] at hz;exact hz
  obtain ⟨ok,H4,e4,c4,hok⟩:=two;rw [e4,aA];obtain ⟨H5,p5,w5,c5,n5⟩:=(w3.call c4).set (j:=1) (vs:=[(.int .i64 0),(.int .i64 0),(.str []),(.slice none 0 0 0)]) (show 1+4≤15 by decide) (ds:=vac (fI 0 eI rb op rp nm s1 s2)) rfl;obtain ⟨H6,p6,w6,c6,n6⟩:=w5.set (j:=5) (vs:=[(.int .i64 0),(.int .i64 0),(.str []),(.slice none 0 0 0)]) (show 5+4≤15 by decide) (ds:=vac (fI 0 eI eI op rp nm s1 s2)) rfl;obtain ⟨H7,p7,w7,c7,n7⟩:=w6.set (j:=9) (vs:=[(.int .i64 0)]) (show 9+1≤15 by decide) (ds:=vac (fI 0 eI eI 0 rp nm s1 s2)) rfl;simp only [fA,Nat.zero_add];rw [p5,p6,p7];obtain ⟨b',h',e,c',hb⟩:=fin ok w7;refine ⟨b',h',e,c',fun ht=>?_⟩;obtain ⟨h1,h2⟩:=hb ht;obtain ⟨_,_,z2,_,_,z5,z6,z7⟩:=bY h2;obtain ⟨m1,m2,m3,m4⟩:=hok h1;obtain rfl:=yF tp xp z5;obtain rfl:=hns z6;obtain rfl:=hag z7;subst z2 k5;exact mayVa.bin m1 m2 (by omega)
 have q5:iA k 5=false:=by rw [eqI];exact decide_eq_false k5
 -- a name and operands
 have one:∃ ok H4,(dA (.val zH2) (H3.cell (h.next,12)) fun (x67:Bs)=>kA (f51 N x67 H3) fun (x68:Bool) h69=>bif x68 then dA (.val zG2) (h69.cell (h.next,14)) fun (x71:SL)=>some (((some (h.next,0),some (H1.next,0),wB (Int.ofNat x71.len) 64,()):zE2×zE2×Bool×Unit),h69)
   else some ((some (h.next,0),some (H1.next,0),false,()),h69))=some ((some (h.next,0),some (H1.next,0),ok,()),H4)∧Chg [] H3 H4∧(ok=true→dU nm∧ag.length≤64):=by
  simp only [rd12 o3,bA,qA];obtain ⟨u,H4,e4,c4,hu⟩:=nAo (N:=N) (s:=nm) (by omega) (by omega) (by omega) H3;rw [e4,aA]
  cases u with
  | false=>exact ⟨_,H4,rfl,c4,fun h=>by cases h⟩
  | true=>
   simp only [cond_true,rd14 (oo (w3.call c4)),bA,jA];refine ⟨_,H4,rfl,c4,fun hz=>⟨hu rfl,?_⟩⟩;have z:wB (Int.ofNat s2.len) 64=decide (ag.length≤64):=by rw [y2.len];exact kA4 _ 64
   rw [z] at hz;exact of_decide_eq_true hz
 by_cases k67:k=6∨k=7
 ·obtain ⟨ok,H4,e4,c4,hok⟩:=one
  have w4:=w3.call c4;obtain ⟨b2,H5,e5,c5,h5⟩:=uAe (N:=N) hN (P:=h.next) (Q:=H1.next) (r:=r) tg N 0 ok H4 (Nat.zero_le _) (fun h=>(hok h).2) (by omega) (oo w4) (by rw [hG];exact upS w4 y2) (fun _ j _ h=>by omega);rw [show ((0:Nat):Int)=0 from rfl] at e5;have w5:=w4.call c5;rcases k67 with k6 | k7
  ·have q6:iA k 6=true:=by rw [k6];rfl
   have q7:iA k 7=false:=by rw [k6];rfl
   simp only [q1,q2,q3,q4,q5,q6,cond_true,cond_false,aA,fA,Nat.zero_add];rw [e4,aA];dsimp only;rw [e5,mB];have a0':H5.cell (h.next,0)=some (.int .i64 k):=by
    have:=(oo w5).cell 0
    rw [hr] at this;exact this
   simp only [fA,Nat.zero_add,Nat.add_zero,a0',bA,fB,q7,cond_false,aA];obtain ⟨H6,p6,w6,c6,n6⟩:=w5.set (j:=12) (vs:=[(.str [])]) (show 12+1≤15 by decide) (ds:=vac (fI 0 ra rb op rp [] s1 s2)) rfl;obtain ⟨H7,p7,w7,c7,n7⟩:=w6.set (j:=14) (vs:=[(.slice none 0 0 0)]) (show 14+1≤15 by decide) (ds:=vac (fI 0 ra rb op rp [] s1 sl0)) rfl;rw [p6,p7];obtain ⟨b',h',e,c',hb⟩:=fin b2 w7;refine ⟨b',h',e,c',fun ht=>?_⟩;obtain ⟨h1,h2⟩:=hb ht;obtain ⟨_,z1,_,z3,z4,z5,z6,_⟩:=bY h2;obtain ⟨m1,m2⟩:=h5 h1;obtain rfl:=aG ta xa z3;obtain rfl:=aG tb xb z4;obtain rfl:=yF tp xp z5;obtain rfl:=hns z6;subst z1 k6;exact mayVa.call (hok m1).1 m2
  ·have q6:iA k 6=false:=by rw [k7];rfl
   have q7:iA k 7=true:=by rw [k7];rfl
   simp only [q1,q2,q3,q4,q5,q6,q7,cond_true,cond_false,aA,fA,Nat.zero_add];rw [e4,aA];dsimp only;rw [e5,mB];have a0':H5.cell (h.next,0)=some (.int .i64 k):=by
    have:=(oo w5).cell 0
    rw [hr] at this;exact this
   simp only [fA,Nat.zero_add,Nat.add_zero,a0',bA,fB,q7,cond_true,aA,rd13 (oo w5),rd14 (oo w5),jA];have l1:s1.len=ns.length:=by rw [y1.len,List.length_map]
   have l2:s2.len=ag.length:=y2.len;have cnt:∃ b3,(bif b2 then some (((some (h.next,0),some (H1.next,0),iA (Int.ofNat s1.len) (Int.ofNat s2.len),()):zE2×zE2×Bool×Unit),H5) else some ((some (h.next,0),some (H1.next,0),false,()),H5))=some ((some (h.next,0),some (H1.next,0),b3,()),H5)∧(b3=true→b2=true∧ns.length=ag.length):=by
    cases b2 with
    | false=>exact ⟨_,rfl,fun h=>by cases h⟩
    | true=>
     refine ⟨_,rfl,fun hz=>⟨rfl,?_⟩⟩;rw [eqI,decide_eq_true_eq,l1,l2] at hz;exact Int.ofNat.inj hz
   obtain ⟨b3,e3,h3⟩:=cnt;rw [e3,aA];dsimp only;obtain ⟨b4,H6,e6,c6,h6⟩:=rA9 (N:=N) hN (P:=h.next) (Q:=H1.next) (r:=r) (ns:=ns) N 0 b3 H5 (Nat.zero_le _) (fun h=>by
    obtain ⟨g1,g2⟩:=h3 h
    have:=(h5 g1).2.1;omega) (by omega) (oo w5) (by rw [hS];exact upS w5 y1) (fun _ j _ h=>by omega)
   rw [show ((0:Nat):Int)=0 from rfl] at e6;rw [e6,mB];obtain ⟨H7,p7,w7,c7,n7⟩:=(w5.call c6).set (j:=13) (vs:=[(.slice none 0 0 0)]) (show 13+1≤15 by decide) (ds:=vac (fI 0 ra rb op rp nm sl0 s2)) rfl;obtain ⟨H8,p8,w8,c8,n8⟩:=w7.set (j:=12) (vs:=[(.str [])]) (show 12+1≤15 by decide) (ds:=vac (fI 0 ra rb op rp [] sl0 s2)) rfl;obtain ⟨H9,p9,w9,c9,n9⟩:=w8.set (j:=14) (vs:=[(.slice none 0 0 0)]) (show 14+1≤15 by decide) (ds:=vac (fI 0 ra rb op rp [] sl0 sl0)) rfl;simp only [fA,Nat.zero_add];rw [p7];simp only [aA,fA,Nat.zero_add];rw [p8,p9];obtain ⟨b',h',e,c',hb⟩:=fin b4 w9;refine ⟨b',h',e,c',fun ht=>?_⟩;obtain ⟨h1,h2⟩:=hb ht;obtain ⟨_,z1,_,z3,z4,z5,_,_⟩:=bY h2;obtain ⟨m1,m2⟩:=h6 h1;obtain ⟨m3,m4⟩:=h3 m1;obtain ⟨m5,m6⟩:=h5 m3;obtain rfl:=aG ta xa z3;obtain rfl:=aG tb xb z4;obtain rfl:=yF tp xp z5;subst z1 k7;exact mayVa.make (hok m5).1 m4 m2 m6
 have q6:iA k 6=false:=by rw [eqI];exact decide_eq_false fun h=>k67 (.inl h)
 have q7:iA k 7=false:=by rw [eqI];exact decide_eq_false fun h=>k67 (.inr h)
 simp only [q1,q2,q3,q4,q5,q6,q7,cond_true,cond_false,aA,fA,Nat.zero_add];exact ⟨_,H3,rfl,c.trans w3.c,fun h=>by cases h⟩
end
end Qp
namespace Qp
theorem yQ {l:List D} {x:D} (h:x∈l):wtD x≤wtL l:=tAh h
theorem pE:∀ (l:List D),l.length≤wtL l
 | []=>Nat.le_refl _
 | x::r=>by
  have:=pE r
  have h1:1≤wtD x:=by cases x <;> simp [wtD]
  simp only [wtL,List.length_cons];omega
section
variable {N:Nat} {h:Heap} {V:Nat→Prop}
theorem tA5 (hN:100≤N) {mu:Bool} {xs:List D} (hx:∀ x∈xs,rFd x) (hw:wtL xs<N) (hl:wtL xs≤9223372036854775807) {s:SL}:∀ (M i:Nat) (h:Heap),i≤xs.length→i≤65→65-i<M→Sl h V s xs→(∀ j,(hj:j<xs.length)→j<i→oJ mu xs[j])→
  ∃ o b h',yX N M s mu false (i:Int) h=some (o,(s,b,()),h')∧Chg [] h h'∧((o=.exit 0∧(xs.length≤64→∀ y∈xs,oJ mu y))∨(o=.ret∧b=false)):=by
 intro M
 induction M with
 | zero=>intro i h _ _ h;omega
 | succ M ih=>
  intro i h hi h65 hM x hp;rw [gA9];unfold oA1;have hv:s.len=xs.length:=x.len;have z:ltInt (i:Int) 65=decide (i<65):=aC i 65;have done:¬ i<xs.length∨¬ i<65→xs.length≤64→∀ y∈xs,oJ mu y:=fun hd hl y hy=>by
   obtain ⟨j,hj,rfl⟩:=List.getElem_of_mem hy;exact hp j hj (by omega)
  simp only [vF,hv,z]
  by_cases q:i<xs.length
  ·by_cases q2:i<65
   ·simp only [q,q2,decide_true,cond_true]
    have hix:∀ {G:Heap} {β:Type} (K:Nat×Nat→Option β),Sl G V s xs→ixK s.a xs.length (i:Int) 6 K=K (s.at i 6):=fun K x=>by rw [← x.len];exact x.ix q 6 K
    have rdF:∀ {G:Heap},Sl G V s xs→∃ (m:Bool) (nm:Bs) (ty:D) (r:TyV),xs[i]=fdD m nm ty∧Wt Tryz.prog ty 41∧G.cell ((s.at i 6).1,(s.at i 6).2+0)=some (.bool m)∧G.cell ((s.at i 6).1,(s.at i 6).2+1)=some (.str nm)∧G.cells ((s.at i 6).1,(s.at i 6).2+2) 4=some (.agg (tyc r))∧Dt G V ty (tyc r):=by
     intro G x;obtain ⟨cs,e⟩:=x.elt q;obtain ⟨m,nm,ty,h1,h2,h3⟩:=hx _ (List.getElem_mem q);have hd:=e.dt;rw [h1] at hd;obtain ⟨r,hc,hd⟩:=cAz h2 hd;have hz:s.sz=6:=by rw [← e.len,hc];rfl
     refine ⟨m,nm,ty,r,h1,h3,?_,?_,?_,hd⟩
     ·have:=e.cell 0 (by rw [hz];decide)
      rw [hz,hc] at this;exact this
     ·have:=e.cell 1 (by rw [hz];decide)
      rw [hz,hc] at this;exact this
     ·have:=e.cells 2 4 (by rw [hz];decide)
      rw [hz,hc] at this;exact this
    obtain ⟨m,nm,ty,r,hxi,hwt,a0,a1,_,_⟩:=rdF x;rw [hix _ x,a0];simp only [bA,kB];rw [show (fdD m nm ty:D)=fdD m nm ty from rfl] at hxi;have nxt:∀ (G:Heap),Chg [] h G→oJ mu xs[i]→∃ o b h',yX N M s mu false (bB .i64 ((i:Int)+1)) G=some (o,(s,b,()),h')∧Chg [] h h'∧((o=.exit 0∧(xs.length≤64→∀ y∈xs,oJ mu y))∨(o=.ret∧b=false)):=by
     intro G cG hm;rw [eB (by omega)];obtain ⟨o,b,h',e,c',hh⟩:=ih (i+1) G q (by omega) (by omega) (x.chg cG (by simp)) fun j hj hji=>by
      by_cases e:j=i
      ·subst e;exact hm
      ·exact hp j hj (by omega)
     exact ⟨o,b,h',e,cG.trans c',hh⟩
    have rest:(m=true→mu=true)→∃ o b h',(ixK s.a xs.length (i:Int) 6 fun q17=>(dA (.val zH2) (h.cell (q17.1,q17.2+1)) fun (x18:Bs)=>(kA (f46 N x18 h) fun (x19:Bool) h20=>
      (bif !x19 then some (Out.ret,(s,false,()),h20) else
      (ixK s.a xs.length (i:Int) 6 fun q22=>(dA (.val zE) (h20.cells (q22.1,q22.2+2) 4) fun (x23:TyV)=>
      (kA (f21 N N (x23.1,x23.2.1,x23.2.2.1,x23.2.2.2.1,()) 1 h20) fun (x24:Bool) h25=>
      (bif !x24 then some (Out.ret,(s,false,()),h25) else yX N M s mu false (bB .i64 ((i:Int)+1)) h25))))))))=some (o,(s,b,()),h')∧Chg [] h h'∧((o=.exit 0∧(xs.length≤64→∀ y∈xs,oJ mu y))∨(o=.ret∧b=false)):=by
     intro hmu;rw [hix _ x,a1];simp only [bA,qA];obtain ⟨h8,e8,c8⟩:=gI (N:=N) (by omega) nm h;rw [e8,aA]
     cases hn:yC nm with
     | false=>
      simp only [Bool.not_false,cond_true];exact ⟨_,_,h8,rfl,c8,.inr ⟨rfl,rfl⟩⟩
     | true=>
      simp only [Bool.not_true,cond_false];have x8:=x.chg c8 (by simp);obtain ⟨m',nm',ty',r',hxi',hwt',_,_,a2,d2⟩:=rdF x8;rw [hxi] at hxi';simp only [fdD,D.t.injEq,List.cons.injEq,and_true] at hxi';obtain ⟨_,_,rfl⟩:=hxi';rw [hix _ x8,a2,yR];have wt:wtD ty≤wtL xs:=by
       have h1:=yQ (List.getElem_mem q);rw [hxi] at h1;simp only [fdD,wtD,wtL] at h1;omega
      obtain ⟨b,h9,e9,c9,h9b⟩:=vAh (N:=N) hN 64 N h8 r' ty V (by omega) (by omega) (by omega) hwt d2;have e9':f21 N N (r'.1,r'.2.1,r'.2.2.1,r'.2.2.2.1,()) 1 h8=some (b,h9):=e9;rw [e9',aA];have c89:=c8.trans c9
      cases b with
      | false=>
       simp only [Bool.not_false,cond_true];exact ⟨_,_,h9,rfl,c89,.inr ⟨rfl,rfl⟩⟩
      | true=>
       simp only [Bool.not_true,cond_false];exact nxt h9 c89 (by rw [hxi];exact ⟨m,nm,ty,rfl,hmu,hn,h9b rfl⟩)
    cases m with
    | false=>
     simp only [cond_false];exact rest (fun h=>by cases h)
    | true=>
     simp only [cond_true]
     cases mu with
     | false=>
      simp only [Bool.not_false,cond_true];exact ⟨_,_,h,rfl,Chg.refl _ _,.inr ⟨rfl,rfl⟩⟩
     | true=>
      simp only [Bool.not_true,cond_false];exact rest (fun _=>rfl)
   ·simp only [q,q2,decide_true,decide_false,cond_true,cond_false]
    exact ⟨_,_,_,rfl,Chg.refl _ _,.inl ⟨rfl,done (.inr q2)⟩⟩
  ·simp only [q,decide_false,cond_false]
   exact ⟨_,_,_,rfl,Chg.refl _ _,.inl ⟨rfl,done (.inl q)⟩⟩
theorem rAj (hN:100≤N) {mu:Bool} {xs:List D} (hx:∀ x∈xs,rFd x) (hw:wtL xs<N) (hl:wtL xs≤9223372036854775807) {s:SL} (x:Sl h V s xs):∃ b h',f48 N s mu h=some (b,h')∧Chg [] h h'∧(b=true→jP 64 (oJ mu) xs):=by
 unfold f48;obtain ⟨o,b,h',e,c,hh⟩:=tA5 (N:=N) hN (mu:=mu) hx hw hl N 0 h (Nat.zero_le _) (by omega) (by omega) x fun j _ h=>by omega
 rw [show ((0:Nat):Int)=0 from rfl] at e;rw [e,mB];rcases hh with ⟨rfl,hh⟩ | ⟨rfl,rfl⟩
 ·simp only [mC,decide_true,cond_true]
  have z:wB (Int.ofNat s.len) 64=decide (xs.length≤64):=by rw [x.len];exact kA4 _ 64
  rw [z];exact ⟨_,h',rfl,c,fun hd=>⟨of_decide_eq_true hd,hh (of_decide_eq_true hd)⟩⟩
 ·simp only [eH,cond_false]
  exact ⟨_,h',rfl,c,fun h=>by cases h⟩
end
end Qp
namespace Qp
def zSm (z:SmR):Bool:=zI z.k&&(zI z.at_&&(!z.m&&(zB z.nm&&(!z.has&&(zTy z.ty&&(zLf z.pl&&(zVa z.va&&zOp z.co)))))))
section
variable {N:Nat} {h:Heap} {V:Nat→Prop}
theorem rAc (hN:1≤N) (M:Nat) (h:Heap):f138 N (M+1) zs zs h=some (true,h):=by
 obtain ⟨N,rfl⟩:∃ m,N=m+1:=⟨N-1,by omega⟩;rw [pA5];unfold lAc;dsimp only;rw [pK];unfold oK;rfl
set_option maxHeartbeats 2000000 in
theorem kAz (hN:2≤N) {M:Nat} (hM:2≤M) {P Q:Nat} (z:SmR) (hth:z.th=sl0) (hel:z.el=sl0) {H:Heap} (oP:H.own P (smc z)) (oQ:H.own Q (smc (gF 0))):∃ h',f138 N M ⟨(some (P,0)),1,1,32⟩ ⟨(some (Q,0)),1,1,32⟩ H=some (zSm z,h')∧Chg [] H h':=by
 obtain ⟨M,rfl⟩:∃ m,M=m+1+1:=⟨M-2,by omega⟩;rw [pA5];unfold lAc;dsimp only;rw [show (!iA (Int.ofNat 1) (Int.ofNat 1))=false from rfl];simp only [cond_false]
 -- the one pair
 have key:∀ (L:Nat),∃ o b h',rA1 N (f138 N (M+1)) (L+1+1) ⟨(some (P,0)),1,1,32⟩ ⟨(some (Q,0)),1,1,32⟩ false 0 H=some (o,(b,()),h')∧Chg [] H h'∧((o=.exit 0∧zSm z=true)∨(o=.ret∧b=false∧zSm z=false)):=by
  intro L;rw [pK];unfold oK;have z0:ltInt 0 (Int.ofNat 1)=true:=rfl;have ixP:∀ (A:Nat) {β:Type} (K:Nat×Nat→Option β),ixK (some (A,0)) 1 0 32 K=K (A,0):=fun A β K=>rfl;have cP:H.cells (P,0) 32=some (.agg (smx (smv z))):=oP.cells (j:=0) (m:=32) (Nat.le_refl _);have cQ:H.cells (Q,0) 32=some (.agg (smx (smv (gF 0)))):=oQ.cells (j:=0) (m:=32) (Nat.le_refl _);dsimp only;rw [z0];simp only [cond_true,ixP];rw [cP,uG,cQ,uG];have o7:=vA H (smc (gF 0));have c7:=uA H (.row (smc (gF 0)) .own);have e7:H.push (.row yZA .own)=H.push (.row (smc (gF 0)) .own):=rfl;rw [e7];have n7:(H.push (.row (smc (gF 0)) .own)).next=H.next+1:=rfl;generalize H.push (.row (smc (gF 0)) .own)=H7 at *;have o8:=vA H7 (smc (gF 0));have c8:=uA H7 (.row (smc (gF 0)) .own);have e8:H7.push (.row yZA .own)=H7.push (.row (smc (gF 0)) .own):=rfl;rw [e8];have o78:=o7.chg c8 (by simp);generalize H7.push (.row (smc (gF 0)) .own)=H8 at *;have c08:=c7.trans c8;have ltP:P<H.next:=oP.2;have ltQ:Q<H.next:=oQ.2;have w8:W1 H H8 (smc (gF 0)):=⟨o78,c08,by have:=c8.next;omega⟩;obtain ⟨H9,p9,w9,c9,n9⟩:=w8.set (j:=0) (vs:=smc z) (show 0+32≤32 by decide) (ds:=smc z) (by simp only [smc,smx,smv];rfl);have p9':∀ {β:Type} (K:Heap→Option β),tA (H8.store (H.next,0) (yRA (smv z))) K=K H9:=p9;rw [p9'];have hlt7:H.next<H7.next:=o7.2;have o9:H9.own H7.next (smc (gF 0)):=o8.chg c9 (by simp;omega);have st9:H9.store (H7.next,0) (smc (gF 0))=some (H9.put H7.next (.row (smc (gF 0)) .own)):=o9.store rfl;have o10:=fK o9 (smc (gF 0));have c10:Chg [H7.next] H9 (H9.put H7.next (.row (smc (gF 0)) .own)):=(Chg.refl [H7.next] H9).put (.inl (by simp)) _;have st9':∀ {β:Type} (K:Heap→Option β),tA (H9.store (H7.next,0) (yRA (smv (gF 0)))) K=K (H9.put H7.next (.row (smc (gF 0)) .own)):=fun K=>by
   show tA (H9.store (H7.next,0) (smc (gF 0))) K=_;rw [st9,fA]
  rw [st9'];generalize H9.put H7.next (.row (smc (gF 0)) .own)=H10 at *;have a10:H10.own H.next (smc z):=w9.o.chg c10 (by simp;omega);have c09:Chg [] H H9:=w9.c;have c010:Chg [] H H10:=c09.step c10 fun X hX hlt=>by simp at hX;omega
  have kP:∀ {G:Heap},Chg [] H G→G.cells (P,0) 32=some (.agg (smx (smv z))):=fun c=>(oP.chg c (by simp)).cells (j:=0) (m:=32) (Nat.le_refl _);have kQ:∀ {G:Heap},Chg [] H G→G.cells (Q,0) 32=some (.agg (smx (smv (gF 0)))):=fun c=>(oQ.chg c (by simp)).cells (j:=0) (m:=32) (Nat.le_refl _);have sP:∀ {G:Heap},Chg [] H G→rB (G.cells (P,0) 32) (.agg (yRA (smv z)))=true:=fun c=>by rw [kP c];exact eC _
  have sQ:∀ {G:Heap},Chg [] H G→rB (G.cells (Q,0) 32) (.agg (yRA (smv (gF 0))))=true:=fun c=>by rw [kQ c];exact eC _
  have sZ:∀ (r:SmV),rB (some (AV.agg (smx r))) (.agg (yRA r))=true:=fun r=>eC _;have rd:∀ {G:Heap},G.own H.next (smc z)→G.cell (H.next,0)=some (.int .i64 z.k)∧G.cell (H.next,1)=some (.int .i64 z.at_)∧G.cell (H.next,2)=some (.bool z.m)∧G.cell (H.next,3)=some (.str z.nm)∧G.cell (H.next,8)=some (.bool z.has)∧G.cells (H.next,4) 4=some (.agg (tyc z.ty))∧G.cells (H.next,9) 2=some (.agg (lfc z.pl))∧G.cells (H.next,11) 15=some (.agg (vac z.va))∧G.cells (H.next,26) 4=some (.agg (opc z.co))∧G.cell (H.next,30)=some (.slice none 0 0 0)∧G.cell (H.next,31)=some (.slice none 0 0 0):=fun o=>⟨o.cell 0,o.cell 1,o.cell 2,o.cell 3,o.cell 8,o.cells (j:=4) (m:=4) (show 4+4≤32 by decide),o.cells (j:=9) (m:=2) (show 9+2≤32 by decide),o.cells (j:=11) (m:=15) (show 11+15≤32 by decide),o.cells (j:=26) (m:=4) (show 26+4≤32 by decide),by
   have e:(smc z)[30]? = some (AV.slice none 0 0 0):=by
    show some (SL.av z.th)=_;rw [hth];rfl
   exact (o.cell 30).trans e,by
   have e:(smc z)[31]? = some (AV.slice none 0 0 0):=by
    show some (SL.av z.el)=_;rw [hel];rfl
   exact (o.cell 31).trans e⟩
  have rz:∀ {G:Heap},G.own H7.next (smc (gF 0))→G.cell (H7.next,0)=some (.int .i64 0)∧G.cell (H7.next,1)=some (.int .i64 0)∧G.cell (H7.next,2)=some (.bool false)∧G.cell (H7.next,3)=some (.str [])∧G.cell (H7.next,8)=some (.bool false)∧G.cells (H7.next,4) 4=some (.agg (tyc mA4))∧G.cells (H7.next,9) 2=some (.agg (lfc lf0))∧G.cells (H7.next,11) 15=some (.agg (vac va0))∧G.cells (H7.next,26) 4=some (.agg (opc eI))∧G.cell (H7.next,30)=some (.slice none 0 0 0)∧G.cell (H7.next,31)=some (.slice none 0 0 0):=fun o=>⟨o.cell 0,o.cell 1,o.cell 2,o.cell 3,o.cell 8,o.cells (j:=4) (m:=4) (show 4+4≤32 by decide),o.cells (j:=9) (m:=2) (show 9+2≤32 by decide),o.cells (j:=11) (m:=15) (show 11+15≤32 by decide),o.cells (j:=26) (m:=4) (show 26+4≤32 by decide),o.cell 30,o.cell 31⟩;obtain ⟨a0,a1,a2,a3,a8,a4,_⟩:=rd a10;obtain ⟨b0,b1,b2,b3,b8,b4,_⟩:=rz o10;simp only [sZ,sP c010,sP c09,sP c08,sP c7,sQ c010,sQ c09,sQ c08,sQ c7,sP (Chg.refl _ _),sQ (Chg.refl _ _),cond_true,jC,Nat.zero_add,Nat.add_zero,a0,a1,a2,a3,a8,b0,b1,b2,b3,b8,bA,fB,kB,qA];show ∃ o b h',(bif !zI z.k then some (Out.ret,(false,()),H10) else (bif !zI z.at_ then some (Out.ret,(false,()),H10) else (bif !(bif z.m then false else !false) then some (Out.ret,(false,()),H10) else (bif !zB z.nm then some (Out.ret,(false,()),H10) else (bif !(bif z.has then false else !false) then some (Out.ret,(false,()),H10) else _)))))=some (o,(b,()),h')∧_;unfold zSm;have no:∀ {G:Heap} {R:Bool},Chg [] H G→R=false→∃ o b h',(some (Out.ret,(false,()),G):Option (Out×zA1×Heap))=some (o,(b,()),h')∧Chg [] H h'∧((o=.exit 0∧R=true)∨(o=.ret∧b=false∧R=false)):=fun c hR=>⟨_,_,_,rfl,c,.inr ⟨rfl,rfl,hR⟩⟩
  cases zI z.k with
  | false=>exact no c010 rfl
  | true=>
  cases zI z.at_ with
  | false=>exact no c010 rfl
  | true=>
  cases z.m with
  | true=>exact no c010 rfl
  | false=>
  cases zB z.nm with
  | false=>exact no c010 rfl
  | true=>
  cases z.has with
  | true=>exact no c010 rfl
  | false=>
  simp only [Bool.not_true,Bool.not_false,cond_false,cond_true,Bool.true_and];rw [a4,b4,yR,yR];obtain ⟨G1,e1,d1⟩:=bAz (N:=N) (by omega) (M:=N) (by omega) z.ty H10;have e1':f25 N N (z.ty.1,z.ty.2.1,z.ty.2.2.1,z.ty.2.2.2.1,()) (0,[],zs,zs,()) H10=some (zTy z.ty,G1):=e1;rw [e1',aA];have g1:=c010.trans d1;have r1:=a10.chg d1 (by simp);have s1:=o10.chg d1 (by simp)
  cases zTy z.ty with
  | false=>exact no g1 rfl
  | true=>
  simp only [Bool.not_true,cond_false,Bool.true_and];rw [(rd r1).2.2.2.2.2.2.1,(rz s1).2.2.2.2.2.2.1,pM,pM];obtain ⟨G2,e2,d2⟩:=mAj (N:=N) (by omega) z.pl G1;have e2':f183 N (z.pl.1,z.pl.2.1,()) ([],zs,()) G1=some (zLf z.pl,G2):=e2;rw [e2',aA];have g2:=g1.trans d2;have r2:=r1.chg d2 (by simp);have s2:=s1.chg d2 (by simp)
  cases zLf z.pl with
  | false=>exact no g2 rfl
  | true=>
  simp only [Bool.not_true,cond_false,Bool.true_and];rw [(rd r2).2.2.2.2.2.2.2.1,(rz s2).2.2.2.2.2.2.2.1,pV,pV];obtain ⟨G3,e3,d3⟩:=wAo (N:=N) (by omega) z.va G2;have e3':f181 N (tV z.va) oV G2=some (zVa z.va,G3):=e3;show ∃ o b h',(kA (f181 N (tV z.va) oV G2) _)=some (o,(b,()),h')∧_;rw [e3',aA];have g3:=g2.trans d3;have r3:=r2.chg d3 (by simp);have s3:=s2.chg d3 (by simp)
  cases zVa z.va with
  | false=>exact no g3 rfl
  | true=>
  simp only [Bool.not_true,cond_false,Bool.true_and];rw [(rd r3).2.2.2.2.2.2.2.2.1,(rz s3).2.2.2.2.2.2.2.2.1,iK,iK];obtain ⟨G4,e4,d4⟩:=nAj (N:=N) (by omega) z.co G3;have e4':f184 N (z.co.1,z.co.2.1,z.co.2.2.1,z.co.2.2.2.1,()) (0,0,[],zs,()) G3=some (zOp z.co,G4):=e4;show ∃ o b h',(kA (f184 N (z.co.1,z.co.2.1,z.co.2.2.1,z.co.2.2.2.1,()) (0,0,[],zs,()) G3) _)=some (o,(b,()),h')∧_;rw [e4',aA];have g4:=g3.trans d4;have r4:=r3.chg d4 (by simp);have s4:=s3.chg d4 (by simp)
  cases zOp z.co with
  | false=>exact no g4 rfl
  | true=>
  obtain ⟨_,_,_,_,_,_,_,_,_,a30,a31⟩:=rd r4;obtain ⟨_,_,_,_,_,_,_,_,_,b30,b31⟩:=rz s4;simp only [Bool.not_true,cond_false,a30,a31,b30,b31,bA,jA];rw [rAc (by omega) M G4,aA];simp only [Bool.not_true,cond_false,a31,b31,bA,jA];rw [rAc (by omega) M G4,aA];simp only [Bool.not_true,cond_false];rw [pK];unfold oK;have zl:ltInt (bB .i64 (0+1)) (Int.ofNat 1)=false:=rfl;dsimp only;rw [zl];exact ⟨_,_,_,rfl,g4,.inl ⟨rfl,trivial⟩⟩
 obtain ⟨L,hL⟩:∃ L,N=L+1+1:=⟨N-2,by omega⟩;obtain ⟨o,b,h',e,c,hh⟩:=key L;rw [← hL] at e;rw [e,mB];rcases hh with ⟨rfl,hz⟩ | ⟨rfl,rfl,hz⟩
 ·rw [hz];exact ⟨h',rfl,c⟩
 ·rw [hz];exact ⟨h',rfl,c⟩
end
end Qp
namespace Qp
abbrev J9:=zW
noncomputable def gB1 (N:Nat) (v0:SL) (v1:Int) (v4:Bool) (v5:Int) (A B:Nat) (h13:Heap):Option (Sum (zW×Heap) (Sum (zA1×Heap) Empty)):=
   (dA (.val zJ2) (h13.cell ((A,0).1,(A,0).2+0)) fun (x14:Int)=>
   let x15:Bool:=iA x14 1
   (bif x15 then
   (kA (α:=zW) (
    (dA (.val zH2) (h13.cell ((A,0).1,(A,0).2+3)) fun (x16:zL2)=>
    (kA (f46 N x16 h13) fun (x17:Bool) h18=>
    (bif x17 then
    (dA (.val zE) (h18.cells ((A,0).1,(A,0).2+4) 4) fun (x19:zU)=>
    (kA (f21 N N (x19.1,x19.2.1,x19.2.2.1,x19.2.2.2.1,()) 1 h18) fun (x20:Bool) h21=>
    some ((v0,v1,v4,v5,(some (A,0)),(some (B,0)),x20,false,false,()),h21)))
    else
    some ((v0,v1,v4,v5,(some (A,0)),(some (B,0)),false,false,false,()),h18))))) fun (j22:zW) h23=>
   (tA j22.2.2.2.2.2.1 fun q24=>
   (tA (h23.store (q24.1,q24.2+2) [(.bool false)]) fun h25=>
   (tA j22.2.2.2.2.2.1 fun q26=>
   (tA (h25.store (q26.1,q26.2+3) [(.str [])]) fun h27=>
   (tA j22.2.2.2.2.2.1 fun q28=>
   (tA (h27.store (q28.1,q28.2+4) [(.int .i64 0),(.str []),(.slice none 0 0 0),(.slice none 0 0 0)]) fun h29=>
   some (Sum.inl ((j22.1,j22.2.1,j22.2.2.1,j22.2.2.2.1,j22.2.2.2.2.1,j22.2.2.2.2.2.1,j22.2.2.2.2.2.2.1,j22.2.2.2.2.2.2.2.1,j22.2.2.2.2.2.2.2.2.1,()),h29)))))))))
   else
   let x30:Bool:=iA x14 2
   (bif x30 then
    (kA (α:=zW) (
    (dA (.val zG) (h13.cells ((A,0).1,(A,0).2+9) 2) fun (x31:zB1)=>
    (kA (f135 N (x31.1,x31.2.1,()) h13) fun (x32:Bool) h33=>
    (bif x32 then
     (dA (.val zC) (h33.cells ((A,0).1,(A,0).2+11) 15) fun (x34:zQ)=>
     (kA (f136 N (x34.1,x34.2.1,x34.2.2.1,x34.2.2.2.1,x34.2.2.2.2.1,x34.2.2.2.2.2.1,x34.2.2.2.2.2.2.1,x34.2.2.2.2.2.2.2.1,x34.2.2.2.2.2.2.2.2.1,x34.2.2.2.2.2.2.2.2.2.1,x34.2.2.2.2.2.2.2.2.2.2.1,x34.2.2.2.2.2.2.2.2.2.2.2.1,x34.2.2.2.2.2.2.2.2.2.2.2.2.1,x34.2.2.2.2.2.2.2.2.2.2.2.2.2.1,x34.2.2.2.2.2.2.2.2.2.2.2.2.2.2.1,()) h33) fun (x35:Bool) h36=>
     some ((v0,v1,v4,v5,(some (A,0)),(some (B,0)),x35,false,false,()),h36)))
    else
     some ((v0,v1,v4,v5,(some (A,0)),(some (B,0)),false,false,false,()),h33))))) fun (j37:zW) h38=>
    (tA j37.2.2.2.2.2.1 fun q39=>
    (tA (h38.store (q39.1,q39.2+9) [(.str []),(.slice none 0 0 0)]) fun h40=>
    (tA j37.2.2.2.2.2.1 fun q41=>
    (tA (h40.store (q41.1,q41.2+11) [(.int .i64 0),(.int .i64 0),(.int .i64 0),(.str []),(.slice none 0 0 0),(.int .i64 0),(.int .i64 0),(.str []),(.slice none 0 0 0),(.int .i64 0),(.str []),(.slice none 0 0 0),(.str []),(.slice none 0 0 0),(.slice none 0 0 0)]) fun h42=>
    some (Sum.inl ((j37.1,j37.2.1,j37.2.2.1,j37.2.2.2.1,j37.2.2.2.2.1,j37.2.2.2.2.2.1,j37.2.2.2.2.2.2.1,j37.2.2.2.2.2.2.2.1,j37.2.2.2.2.2.2.2.2.1,()),h42)))))))
   else
    let x43:Bool:=iA x14 3
    (bif x43 then
    (kA (α:=zW) (
     (dA (.val zC) (h13.cells ((A,0).1,(A,0).2+11) 15) fun (x44:zQ)=>
     (kA (f136 N (x44.1,x44.2.1,x44.2.2.1,x44.2.2.2.1,x44.2.2.2.2.1,x44.2.2.2.2.2.1,x44.2.2.2.2.2.2.1,x44.2.2.2.2.2.2.2.1,x44.2.2.2.2.2.2.2.2.1,x44.2.2.2.2.2.2.2.2.2.1,x44.2.2.2.2.2.2.2.2.2.2.1,x44.2.2.2.2.2.2.2.2.2.2.2.1,x44.2.2.2.2.2.2.2.2.2.2.2.2.1,x44.2.2.2.2.2.2.2.2.2.2.2.2.2.1,x44.2.2.2.2.2.2.2.2.2.2.2.2.2.2.1,()) h13) fun (x45:Bool) h46=>
     (bif x45 then
     (dA (.val zJ2) (h46.cell (((A,0).1,(A,0).2+11).1,((A,0).1,(A,0).2+11).2+0)) fun (x47:Int)=>
     let x48:Bool:=iA x47 6
     some ((v0,v1,v4,v5,(some (A,0)),(some (B,0)),x48,false,false,()),h46))
     else
     some ((v0,v1,v4,v5,(some (A,0)),(some (B,0)),false,false,false,()),h46))))) fun (j49:zW) h50=>
    (tA j49.2.2.2.2.2.1 fun q51=>
    (tA (h50.store (q51.1,q51.2+11) [(.int .i64 0),(.int .i64 0),(.int .i64 0),(.str []),(.slice none 0 0 0),(.int .i64 0),(.int .i64 0),(.str []),(.slice none 0 0 0),(.int .i64 0),(.str []),(.slice none 0 0 0),(.str []),(.slice none 0 0 0),(.slice none 0 0 0)]) fun h52=>
    some (Sum.inl ((j49.1,j49.2.1,j49.2.2.1,j49.2.2.2.1,j49.2.2.2.2.1,j49.2.2.2.2.2.1,j49.2.2.2.2.2.2.1,j49.2.2.2.2.2.2.2.1,j49.2.2.2.2.2.2.2.2.1,()),h52)))))
    else
    let x53:Bool:=iA x14 4
    (bif x53 then
     (dA (.val zD) (h13.cells ((A,0).1,(A,0).2+26) 4) fun (x54:zX)=>
     (kA (f137 N (x54.1,x54.2.1,x54.2.2.1,x54.2.2.2.1,()) h13) fun (x55:Bool) h56=>
     (dA (.val zI2) (h56.cell ((A,0).1,(A,0).2+8)) fun (x57:Bool)=>
     (wD (bif (rB (h56.cell ((A,0).1,(A,0).2+8)) (.bool x57)) then (bif (rB (h13.cell ((A,0).1,(A,0).2+8)) (.bool x57)) then (bif (rB (h13.cells ((A,0).1,(A,0).2+26) 4) (.agg [(.int .i64 x54.1),(.int .i64 x54.2.1),(.str x54.2.2.1),(.slice x54.2.2.2.1.a x54.2.2.2.1.len x54.2.2.2.1.cap x54.2.2.2.1.sz)])) then true else false) else false) else false) (
     (tA (h56.store ((B,0).1,(B,0).2+26) [(.int .i64 0),(.int .i64 0),(.str []),(.slice none 0 0 0)]) fun h58=>
     (tA (h58.store ((B,0).1,(B,0).2+8) [(.bool false)]) fun h59=>
     some (Sum.inl ((v0,v1,v4,v5,(some (A,0)),(some (B,0)),x55,true,x57,()),h59)))))))))
    else
     let x60:Bool:=iA x14 5
     (bif x60 then
     (dA (.val zD) (h13.cells ((A,0).1,(A,0).2+26) 4) fun (x61:zX)=>
     (kA (f137 N (x61.1,x61.2.1,x61.2.2.1,x61.2.2.2.1,()) h13) fun (x62:Bool) h63=>
     (tA (h63.store ((B,0).1,(B,0).2+26) [(.int .i64 0),(.int .i64 0),(.str []),(.slice none 0 0 0)]) fun h64=>
     some (Sum.inl ((v0,v1,v4,v5,(some (A,0)),(some (B,0)),x62,true,false,()),h64)))))
     else
     (kA (α:=zC1) (
      let x65:Bool:=iA x14 6
      (bif x65 then
      some ((v0,v1,v4,v5,(some (A,0)),(some (B,0)),true,false,false,x14,x65,()),h13)
      else
      let x66:Bool:=iA x14 7
      some ((v0,v1,v4,v5,(some (A,0)),(some (B,0)),true,false,false,x14,x66,()),h13))) fun (j67:zC1) h68=>
     (bif j67.2.2.2.2.2.2.2.2.2.2.1 then
      some (Sum.inl ((j67.1,j67.2.1,j67.2.2.1,j67.2.2.2.1,j67.2.2.2.2.1,j67.2.2.2.2.2.1,j67.2.2.2.2.2.2.1,true,j67.2.2.2.2.2.2.2.2.1,()),h68))
     else
      (kA (α:=zC1) (
      let x69:Bool:=iA j67.2.2.2.2.2.2.2.2.2.1 8
      (bif x69 then
       some ((j67.1,j67.2.1,j67.2.2.1,j67.2.2.2.1,j67.2.2.2.2.1,j67.2.2.2.2.2.1,j67.2.2.2.2.2.2.1,j67.2.2.2.2.2.2.2.1,j67.2.2.2.2.2.2.2.2.1,j67.2.2.2.2.2.2.2.2.2.1,x69,()),h68)
      else
       let x70:Bool:=iA j67.2.2.2.2.2.2.2.2.2.1 9
       (bif x70 then
       some ((j67.1,j67.2.1,j67.2.2.1,j67.2.2.2.1,j67.2.2.2.2.1,j67.2.2.2.2.2.1,j67.2.2.2.2.2.2.1,j67.2.2.2.2.2.2.2.1,j67.2.2.2.2.2.2.2.2.1,j67.2.2.2.2.2.2.2.2.2.1,x70,()),h68)
       else
       let x71:Bool:=iA j67.2.2.2.2.2.2.2.2.2.1 10
       some ((j67.1,j67.2.1,j67.2.2.1,j67.2.2.2.1,j67.2.2.2.2.1,j67.2.2.2.2.2.1,j67.2.2.2.2.2.2.1,j67.2.2.2.2.2.2.2.1,j67.2.2.2.2.2.2.2.2.1,j67.2.2.2.2.2.2.2.2.2.1,x71,()),h68)))) fun (j72:zC1) h73=>
      (bif j72.2.2.2.2.2.2.2.2.2.2.1 then
      some (Sum.inl ((j72.1,j72.2.1,j72.2.2.1,j72.2.2.2.1,j72.2.2.2.2.1,j72.2.2.2.2.2.1,j72.2.2.2.2.2.2.1,j72.2.2.2.2.2.2.2.1,j72.2.2.2.2.2.2.2.2.1,()),h73))
      else
      let x74:Bool:=iA j72.2.2.2.2.2.2.2.2.2.1 11
      (bif x74 then
       (tA j72.2.2.2.2.1 fun q75=>
       (dA (.val zG) (h73.cells (q75.1,q75.2+9) 2) fun (x76:zB1)=>
       (kA (f135 N (x76.1,x76.2.1,()) h73) fun (x77:Bool) h78=>
       (tA j72.2.2.2.2.2.1 fun q79=>
       (tA (h78.store (q79.1,q79.2+9) [(.str []),(.slice none 0 0 0)]) fun h80=>
       some (Sum.inl ((j72.1,j72.2.1,j72.2.2.1,j72.2.2.2.1,j72.2.2.2.2.1,j72.2.2.2.2.2.1,x77,j72.2.2.2.2.2.2.2.1,j72.2.2.2.2.2.2.2.2.1,()),h80)))))))
      else
       some (Sum.inr (Sum.inl ((false,()),h73))))))))))))))
noncomputable def yB4 (N:Nat) (j82:J9) (h83:Heap):Option (J9×Heap):=
   (kA (α:=zI1) (
    (tA j82.2.2.2.2.1 fun q85=>
    (dA (.val zJ2) (h83.cell (q85.1,q85.2+0)) fun (x86:Int)=>
    let x87:Bool:=iA x86 1
    (bif x87 then
    (tA j82.2.2.2.2.1 fun q88=>
    (dA (.val zI2) (h83.cell (q88.1,q88.2+8)) fun (x89:Bool)=>
    some ((j82.1,j82.2.1,j82.2.2.1,j82.2.2.2.1,j82.2.2.2.2.1,j82.2.2.2.2.2.1,j82.2.2.2.2.2.2.1,j82.2.2.2.2.2.2.2.1,j82.2.2.2.2.2.2.2.2.1,x89,()),h83)))
    else
    (tA j82.2.2.2.2.1 fun q90=>
    (dA (.val zJ2) (h83.cell (q90.1,q90.2+0)) fun (x91:Int)=>
    let x92:Bool:=iA x91 10
    (bif x92 then
     (tA j82.2.2.2.2.1 fun q93=>
     (dA (.val zI2) (h83.cell (q93.1,q93.2+8)) fun (x94:Bool)=>
     some ((j82.1,j82.2.1,j82.2.2.1,j82.2.2.2.1,j82.2.2.2.2.1,j82.2.2.2.2.2.1,j82.2.2.2.2.2.2.1,j82.2.2.2.2.2.2.2.1,j82.2.2.2.2.2.2.2.2.1,x94,()),h83)))
    else
     some ((j82.1,j82.2.1,j82.2.2.1,j82.2.2.2.1,j82.2.2.2.2.1,j82.2.2.2.2.2.1,j82.2.2.2.2.2.2.1,j82.2.2.2.2.2.2.2.1,j82.2.2.2.2.2.2.2.2.1,false,()),h83)))))))) fun (j95:zI1) h96=>
   (bif j95.2.2.2.2.2.2.2.2.2.1 then
    (kA (α:=zW) (
    (bif j95.2.2.2.2.2.2.1 then
     (tA j95.2.2.2.2.1 fun q97=>
     (dA (.val zC) (h96.cells (q97.1,q97.2+11) 15) fun (x98:zQ)=>
     (kA (f136 N (x98.1,x98.2.1,x98.2.2.1,x98.2.2.2.1,x98.2.2.2.2.1,x98.2.2.2.2.2.1,x98.2.2.2.2.2.2.1,x98.2.2.2.2.2.2.2.1,x98.2.2.2.2.2.2.2.2.1,x98.2.2.2.2.2.2.2.2.2.1,x98.2.2.2.2.2.2.2.2.2.2.1,x98.2.2.2.2.2.2.2.2.2.2.2.1,x98.2.2.2.2.2.2.2.2.2.2.2.2.1,x98.2.2.2.2.2.2.2.2.2.2.2.2.2.1,x98.2.2.2.2.2.2.2.2.2.2.2.2.2.2.1,()) h96) fun (x99:Bool) h100=>
     some ((j95.1,j95.2.1,j95.2.2.1,j95.2.2.2.1,j95.2.2.2.2.1,j95.2.2.2.2.2.1,x99,j95.2.2.2.2.2.2.2.1,j95.2.2.2.2.2.2.2.2.1,()),h100))))
    else
     some ((j95.1,j95.2.1,j95.2.2.1,j95.2.2.2.1,j95.2.2.2.2.1,j95.2.2.2.2.2.1,false,j95.2.2.2.2.2.2.2.1,j95.2.2.2.2.2.2.2.2.1,()),h96))) fun (j101:zW) h102=>
    (tA j101.2.2.2.2.2.1 fun q103=>
    (tA (h102.store (q103.1,q103.2+11) [(.int .i64 0),(.int .i64 0),(.int .i64 0),(.str []),(.slice none 0 0 0),(.int .i64 0),(.int .i64 0),(.str []),(.slice none 0 0 0),(.int .i64 0),(.str []),(.slice none 0 0 0),(.str []),(.slice none 0 0 0),(.slice none 0 0 0)]) fun h104=>
    (tA j101.2.2.2.2.2.1 fun q105=>
    (tA (h104.store (q105.1,q105.2+8) [(.bool false)]) fun h106=>
    some ((j101.1,j101.2.1,j101.2.2.1,j101.2.2.2.1,j101.2.2.2.2.1,j101.2.2.2.2.2.1,j101.2.2.2.2.2.2.1,j101.2.2.2.2.2.2.2.1,j101.2.2.2.2.2.2.2.2.1,()),h106))))))
   else
    some ((j95.1,j95.2.1,j95.2.2.1,j95.2.2.2.1,j95.2.2.2.2.1,j95.2.2.2.2.2.1,j95.2.2.2.2.2.2.1,j95.2.2.2.2.2.2.2.1,j95.2.2.2.2.2.2.2.2.1,()),h96)))
noncomputable def iB1 (N:Nat) (rec88:SL→Int→Heap→Option (Bool×Heap)) (j107:J9) (h108:Heap):Option (Sum (zW1×Heap) (Sum (zA1×Heap) Empty)):=
   let x109:Bool:=!j107.2.2.2.2.2.2.1
   (bif x109 then
   some (Sum.inr (Sum.inl ((false,()),h108)))
   else
   (tA j107.2.2.2.2.2.1 fun q110=>
   (dA (.val zA) (h108.cells q110 32) fun (x111:zP)=>
   let h112:Heap:=h108.push (.row [(.int .i64 x111.1),(.int .i64 x111.2.1),(.bool x111.2.2.1),(.str x111.2.2.2.1),(.int .i64 x111.2.2.2.2.1),(.str x111.2.2.2.2.2.1),(.slice x111.2.2.2.2.2.2.1.a x111.2.2.2.2.2.2.1.len x111.2.2.2.2.2.2.1.cap x111.2.2.2.2.2.2.1.sz),(.slice x111.2.2.2.2.2.2.2.1.a x111.2.2.2.2.2.2.2.1.len x111.2.2.2.2.2.2.2.1.cap x111.2.2.2.2.2.2.2.1.sz),(.bool x111.2.2.2.2.2.2.2.2.1),(.str x111.2.2.2.2.2.2.2.2.2.1),(.slice x111.2.2.2.2.2.2.2.2.2.2.1.a x111.2.2.2.2.2.2.2.2.2.2.1.len x111.2.2.2.2.2.2.2.2.2.2.1.cap x111.2.2.2.2.2.2.2.2.2.2.1.sz),(.int .i64 x111.2.2.2.2.2.2.2.2.2.2.2.1),(.int .i64 x111.2.2.2.2.2.2.2.2.2.2.2.2.1),(.int .i64 x111.2.2.2.2.2.2.2.2.2.2.2.2.2.1),(.str x111.2.2.2.2.2.2.2.2.2.2.2.2.2.2.1),(.slice x111.2.2.2.2.2.2.2.2.2.2.2.2.2.2.2.1.a x111.2.2.2.2.2.2.2.2.2.2.2.2.2.2.2.1.len x111.2.2.2.2.2.2.2.2.2.2.2.2.2.2.2.1.cap x111.2.2.2.2.2.2.2.2.2.2.2.2.2.2.2.1.sz),(.int .i64 x111.2.2.2.2.2.2.2.2.2.2.2.2.2.2.2.2.1),(.int .i64 x111.2.2.2.2.2.2.2.2.2.2.2.2.2.2.2.2.2.1),(.str x111.2.2.2.2.2.2.2.2.2.2.2.2.2.2.2.2.2.2.1),(.slice x111.2.2.2.2.2.2.2.2.2.2.2.2.2.2.2.2.2.2.2.1.a x111.2.2.2.2.2.2.2.2.2.2.2.2.2.2.2.2.2.2.2.1.len x111.2.2.2.2.2.2.2.2.2.2.2.2.2.2.2.2.2.2.2.1.cap x111.2.2.2.2.2.2.2.2.2.2.2.2.2.2.2.2.2.2.2.1.sz),(.int .i64 x111.2.2.2.2.2.2.2.2.2.2.2.2.2.2.2.2.2.2.2.2.1),(.str x111.2.2.2.2.2.2.2.2.2.2.2.2.2.2.2.2.2.2.2.2.2.1),(.slice x111.2.2.2.2.2.2.2.2.2.2.2.2.2.2.2.2.2.2.2.2.2.2.1.a x111.2.2.2.2.2.2.2.2.2.2.2.2.2.2.2.2.2.2.2.2.2.2.1.len x111.2.2.2.2.2.2.2.2.2.2.2.2.2.2.2.2.2.2.2.2.2.2.1.cap x111.2.2.2.2.2.2.2.2.2.2.2.2.2.2.2.2.2.2.2.2.2.2.1.sz),(.str x111.2.2.2.2.2.2.2.2.2.2.2.2.2.2.2.2.2.2.2.2.2.2.2.1),(.slice x111.2.2.2.2.2.2.2.2.2.2.2.2.2.2.2.2.2.2.2.2.2.2.2.2.1.a x111.2.2.2.2.2.2.2.2.2.2.2.2.2.2.2.2.2.2.2.2.2.2.2.2.1.len x111.2.2.2.2.2.2.2.2.2.2.2.2.2.2.2.2.2.2.2.2.2.2.2.2.1.cap x111.2.2.2.2.2.2.2.2.2.2.2.2.2.2.2.2.2.2.2.2.2.2.2.2.1.sz),(.slice x111.2.2.2.2.2.2.2.2.2.2.2.2.2.2.2.2.2.2.2.2.2.2.2.2.2.1.a x111.2.2.2.2.2.2.2.2.2.2.2.2.2.2.2.2.2.2.2.2.2.2.2.2.2.1.len x111.2.2.2.2.2.2.2.2.2.2.2.2.2.2.2.2.2.2.2.2.2.2.2.2.2.1.cap x111.2.2.2.2.2.2.2.2.2.2.2.2.2.2.2.2.2.2.2.2.2.2.2.2.2.1.sz),(.int .i64 x111.2.2.2.2.2.2.2.2.2.2.2.2.2.2.2.2.2.2.2.2.2.2.2.2.2.2.1),(.int .i64 x111.2.2.2.2.2.2.2.2.2.2.2.2.2.2.2.2.2.2.2.2.2.2.2.2.2.2.2.1),(.str x111.2.2.2.2.2.2.2.2.2.2.2.2.2.2.2.2.2.2.2.2.2.2.2.2.2.2.2.2.1),(.slice x111.2.2.2.2.2.2.2.2.2.2.2.2.2.2.2.2.2.2.2.2.2.2.2.2.2.2.2.2.2.1.a x111.2.2.2.2.2.2.2.2.2.2.2.2.2.2.2.2.2.2.2.2.2.2.2.2.2.2.2.2.2.1.len x111.2.2.2.2.2.2.2.2.2.2.2.2.2.2.2.2.2.2.2.2.2.2.2.2.2.2.2.2.2.1.cap x111.2.2.2.2.2.2.2.2.2.2.2.2.2.2.2.2.2.2.2.2.2.2.2.2.2.2.2.2.2.1.sz),(.slice x111.2.2.2.2.2.2.2.2.2.2.2.2.2.2.2.2.2.2.2.2.2.2.2.2.2.2.2.2.2.2.1.a x111.2.2.2.2.2.2.2.2.2.2.2.2.2.2.2.2.2.2.2.2.2.2.2.2.2.2.2.2.2.2.1.len x111.2.2.2.2.2.2.2.2.2.2.2.2.2.2.2.2.2.2.2.2.2.2.2.2.2.2.2.2.2.2.1.cap x111.2.2.2.2.2.2.2.2.2.2.2.2.2.2.2.2.2.2.2.2.2.2.2.2.2.2.2.2.2.2.1.sz),(.slice x111.2.2.2.2.2.2.2.2.2.2.2.2.2.2.2.2.2.2.2.2.2.2.2.2.2.2.2.2.2.2.2.1.a x111.2.2.2.2.2.2.2.2.2.2.2.2.2.2.2.2.2.2.2.2.2.2.2.2.2.2.2.2.2.2.2.1.len x111.2.2.2.2.2.2.2.2.2.2.2.2.2.2.2.2.2.2.2.2.2.2.2.2.2.2.2.2.2.2.2.1.cap x111.2.2.2.2.2.2.2.2.2.2.2.2.2.2.2.2.2.2.2.2.2.2.2.2.2.2.2.2.2.2.2.1.sz)] .own)
   let h113:Heap:=h112.push (.row [(.int .i64 0),(.int .i64 0),(.bool false),(.str []),(.int .i64 0),(.str []),(.slice none 0 0 0),(.slice none 0 0 0),(.bool false),(.str []),(.slice none 0 0 0),(.int .i64 0),(.int .i64 0),(.int .i64 0),(.str []),(.slice none 0 0 0),(.int .i64 0),(.int .i64 0),(.str []),(.slice none 0 0 0),(.int .i64 0),(.str []),(.slice none 0 0 0),(.str []),(.slice none 0 0 0),(.slice none 0 0 0),(.int .i64 0),(.int .i64 0),(.str []),(.slice none 0 0 0),(.slice none 0 0 0),(.slice none 0 0 0)] .own)
   (kA (f138 N N ⟨(some (h108.next,0)),1,1,32⟩ ⟨(some (h112.next,0)),1,1,32⟩ h113) fun (x114:Bool) h115=>
   let x116:Bool:=!x114
   (bif x116 then
    some (Sum.inr (Sum.inl ((false,()),h115)))
   else
    let x117:Bool:=!j107.2.2.2.2.2.2.2.1
    (bif x117 then
    (tA j107.2.2.2.2.1 fun q118=>
    (dA (.val zG2) (h115.cell (q118.1,q118.2+30)) fun (x119:SL)=>
    let x120:Bool:=ltInt 0 (Int.ofNat x119.len)
    (bif x120 then
     some (Sum.inr (Sum.inl ((false,()),h115)))
    else
     let x121:Bool:=!j107.2.2.2.2.2.2.2.2.1
     (bif x121 then
     (tA j107.2.2.2.2.1 fun q122=>
     (dA (.val zG2) (h115.cell (q122.1,q122.2+31)) fun (x123:SL)=>
     let x124:Bool:=ltInt 0 (Int.ofNat x123.len)
     (bif x124 then
      some (Sum.inr (Sum.inl ((false,()),h115)))
     else
      (bif j107.2.2.2.2.2.2.2.1 then
      (tA j107.2.2.2.2.1 fun q125=>
      (dA (.val zG2) (h115.cell (q125.1,q125.2+30)) fun (x126:SL)=>
      let x127:Int:=bB .i64 (j107.2.1+1)
      (kA (rec88 x126 x127 h115) fun (x128:Bool) h129=>
      let x130:Bool:=!x128
      (bif x130 then
       some (Sum.inr (Sum.inl ((false,()),h129)))
      else
       (bif j107.2.2.2.2.2.2.2.2.1 then
       (tA j107.2.2.2.2.1 fun q131=>
       (dA (.val zG2) (h129.cell (q131.1,q131.2+31)) fun (x132:SL)=>
       let x133:Int:=bB .i64 (j107.2.1+1)
       (kA (rec88 x132 x133 h129) fun (x134:Bool) h135=>
       let x136:Bool:=!x134
       (bif x136 then
        some (Sum.inr (Sum.inl ((false,()),h135)))
       else
        some (Sum.inl ((j107.1,j107.2.1,j107.2.2.1,j107.2.2.2.1,()),h135))))))
       else
       some (Sum.inl ((j107.1,j107.2.1,j107.2.2.1,j107.2.2.2.1,()),h129)))))))
      else
      (bif j107.2.2.2.2.2.2.2.2.1 then
       (tA j107.2.2.2.2.1 fun q137=>
       (dA (.val zG2) (h115.cell (q137.1,q137.2+31)) fun (x138:SL)=>
       let x139:Int:=bB .i64 (j107.2.1+1)
       (kA (rec88 x138 x139 h115) fun (x140:Bool) h141=>
       let x142:Bool:=!x140
       (bif x142 then
       some (Sum.inr (Sum.inl ((false,()),h141)))
       else
       some (Sum.inl ((j107.1,j107.2.1,j107.2.2.1,j107.2.2.2.1,()),h141))))))
      else
       some (Sum.inl ((j107.1,j107.2.1,j107.2.2.1,j107.2.2.2.1,()),h115)))))))
     else
     (bif j107.2.2.2.2.2.2.2.1 then
      (tA j107.2.2.2.2.1 fun q143=>
      (dA (.val zG2) (h115.cell (q143.1,q143.2+30)) fun (x144:SL)=>
      let x145:Int:=bB .i64 (j107.2.1+1)
      (kA (rec88 x144 x145 h115) fun (x146:Bool) h147=>
      let x148:Bool:=!x146
      (bif x148 then
      some (Sum.inr (Sum.inl ((false,()),h147)))
      else
      (bif j107.2.2.2.2.2.2.2.2.1 then
       (tA j107.2.2.2.2.1 fun q149=>
       (dA (.val zG2) (h147.cell (q149.1,q149.2+31)) fun (x150:SL)=>
       let x151:Int:=bB .i64 (j107.2.1+1)
       (kA (rec88 x150 x151 h147) fun (x152:Bool) h153=>
       let x154:Bool:=!x152
       (bif x154 then
       some (Sum.inr (Sum.inl ((false,()),h153)))
       else
       some (Sum.inl ((j107.1,j107.2.1,j107.2.2.1,j107.2.2.2.1,()),h153))))))
      else
       some (Sum.inl ((j107.1,j107.2.1,j107.2.2.1,j107.2.2.2.1,()),h147)))))))
     else
      (bif j107.2.2.2.2.2.2.2.2.1 then
      (tA j107.2.2.2.2.1 fun q155=>
      (dA (.val zG2) (h115.cell (q155.1,q155.2+31)) fun (x156:SL)=>
      let x157:Int:=bB .i64 (j107.2.1+1)
      (kA (rec88 x156 x157 h115) fun (x158:Bool) h159=>
      let x160:Bool:=!x158
      (bif x160 then
       some (Sum.inr (Sum.inl ((false,()),h159)))
      else
       some (Sum.inl ((j107.1,j107.2.1,j107.2.2.1,j107.2.2.2.1,()),h159))))))
      else
      some (Sum.inl ((j107.1,j107.2.1,j107.2.2.1,j107.2.2.2.1,()),h115))))))))
    else
    let x161:Bool:=!j107.2.2.2.2.2.2.2.2.1
    (bif x161 then
     (tA j107.2.2.2.2.1 fun q162=>
     (dA (.val zG2) (h115.cell (q162.1,q162.2+31)) fun (x163:SL)=>
     let x164:Bool:=ltInt 0 (Int.ofNat x163.len)
     (bif x164 then
     some (Sum.inr (Sum.inl ((false,()),h115)))
     else
     (bif j107.2.2.2.2.2.2.2.1 then
      (tA j107.2.2.2.2.1 fun q165=>
      (dA (.val zG2) (h115.cell (q165.1,q165.2+30)) fun (x166:SL)=>
      let x167:Int:=bB .i64 (j107.2.1+1)
      (kA (rec88 x166 x167 h115) fun (x168:Bool) h169=>
      let x170:Bool:=!x168
      (bif x170 then
      some (Sum.inr (Sum.inl ((false,()),h169)))
      else
      (bif j107.2.2.2.2.2.2.2.2.1 then
       (tA j107.2.2.2.2.1 fun q171=>
       (dA (.val zG2) (h169.cell (q171.1,q171.2+31)) fun (x172:SL)=>
       let x173:Int:=bB .i64 (j107.2.1+1)
       (kA (rec88 x172 x173 h169) fun (x174:Bool) h175=>
       let x176:Bool:=!x174
       (bif x176 then
       some (Sum.inr (Sum.inl ((false,()),h175)))
       else
       some (Sum.inl ((j107.1,j107.2.1,j107.2.2.1,j107.2.2.2.1,()),h175))))))
      else
       some (Sum.inl ((j107.1,j107.2.1,j107.2.2.1,j107.2.2.2.1,()),h169)))))))
     else
      (bif j107.2.2.2.2.2.2.2.2.1 then
      (tA j107.2.2.2.2.1 fun q177=>
      (dA (.val zG2) (h115.cell (q177.1,q177.2+31)) fun (x178:SL)=>
      let x179:Int:=bB .i64 (j107.2.1+1)
      (kA (rec88 x178 x179 h115) fun (x180:Bool) h181=>
      let x182:Bool:=!x180
      (bif x182 then
       some (Sum.inr (Sum.inl ((false,()),h181)))
      else
       some (Sum.inl ((j107.1,j107.2.1,j107.2.2.1,j107.2.2.2.1,()),h181))))))
      else
      some (Sum.inl ((j107.1,j107.2.1,j107.2.2.1,j107.2.2.2.1,()),h115)))))))
    else
     (bif j107.2.2.2.2.2.2.2.1 then
     (tA j107.2.2.2.2.1 fun q183=>
     (dA (.val zG2) (h115.cell (q183.1,q183.2+30)) fun (x184:SL)=>
     let x185:Int:=bB .i64 (j107.2.1+1)
     (kA (rec88 x184 x185 h115) fun (x186:Bool) h187=>
     let x188:Bool:=!x186
     (bif x188 then
      some (Sum.inr (Sum.inl ((false,()),h187)))
     else
      (bif j107.2.2.2.2.2.2.2.2.1 then
      (tA j107.2.2.2.2.1 fun q189=>
      (dA (.val zG2) (h187.cell (q189.1,q189.2+31)) fun (x190:SL)=>
      let x191:Int:=bB .i64 (j107.2.1+1)
      (kA (rec88 x190 x191 h187) fun (x192:Bool) h193=>
      let x194:Bool:=!x192
      (bif x194 then
       some (Sum.inr (Sum.inl ((false,()),h193)))
      else
       some (Sum.inl ((j107.1,j107.2.1,j107.2.2.1,j107.2.2.2.1,()),h193))))))
      else
      some (Sum.inl ((j107.1,j107.2.1,j107.2.2.1,j107.2.2.2.1,()),h187)))))))
     else
     (bif j107.2.2.2.2.2.2.2.2.1 then
      (tA j107.2.2.2.2.1 fun q195=>
      (dA (.val zG2) (h115.cell (q195.1,q195.2+31)) fun (x196:SL)=>
      let x197:Int:=bB .i64 (j107.2.1+1)
      (kA (rec88 x196 x197 h115) fun (x198:Bool) h199=>
      let x200:Bool:=!x198
      (bif x200 then
      some (Sum.inr (Sum.inl ((false,()),h199)))
      else
      some (Sum.inl ((j107.1,j107.2.1,j107.2.2.1,j107.2.2.2.1,()),h199))))))
     else
      some (Sum.inl ((j107.1,j107.2.1,j107.2.2.1,j107.2.2.2.1,()),h115)))))))))))
theorem aB5 (N:Nat) (rec88:SL→Int→Heap→Option (Bool×Heap)) (go:SL→Int→Bool→Int→Heap→Option (Out×zA1×Heap)) (v0:SL) (v1:Int) (v4:Bool) (v5:Int) (h:Heap):tA1 N rec88 go v0 v1 v4 v5 h=(
 let x2:Bool:=ltInt v5 (Int.ofNat v0.len)
 (bif x2 then
  (tA (α:=Sum (zW1×Heap) (Sum (zA1×Heap) (Empty))) (
  (ixK v0.a v0.len v5 32 fun q3=>
  (dA (.val zA) (h.cells q3 32) fun (x4:zP)=>
  let h5:Heap:=h.push (.row [(.int .i64 0),(.int .i64 0),(.bool false),(.str []),(.int .i64 0),(.str []),(.slice none 0 0 0),(.slice none 0 0 0),(.bool false),(.str []),(.slice none 0 0 0),(.int .i64 0),(.int .i64 0),(.int .i64 0),(.str []),(.slice none 0 0 0),(.int .i64 0),(.int .i64 0),(.str []),(.slice none 0 0 0),(.int .i64 0),(.str []),(.slice none 0 0 0),(.str []),(.slice none 0 0 0),(.slice none 0 0 0),(.int .i64 0),(.int .i64 0),(.str []),(.slice none 0 0 0),(.slice none 0 0 0),(.slice none 0 0 0)] .own)
  (tA (h5.store (h.next,0) [(.int .i64 x4.1),(.int .i64 x4.2.1),(.bool x4.2.2.1),(.str x4.2.2.2.1),(.int .i64 x4.2.2.2.2.1),(.str x4.2.2.2.2.2.1),(.slice x4.2.2.2.2.2.2.1.a x4.2.2.2.2.2.2.1.len x4.2.2.2.2.2.2.1.cap x4.2.2.2.2.2.2.1.sz),(.slice x4.2.2.2.2.2.2.2.1.a x4.2.2.2.2.2.2.2.1.len x4.2.2.2.2.2.2.2.1.cap x4.2.2.2.2.2.2.2.1.sz),(.bool x4.2.2.2.2.2.2.2.2.1),(.str x4.2.2.2.2.2.2.2.2.2.1),(.slice x4.2.2.2.2.2.2.2.2.2.2.1.a x4.2.2.2.2.2.2.2.2.2.2.1.len x4.2.2.2.2.2.2.2.2.2.2.1.cap x4.2.2.2.2.2.2.2.2.2.2.1.sz),(.int .i64 x4.2.2.2.2.2.2.2.2.2.2.2.1),(.int .i64 x4.2.2.2.2.2.2.2.2.2.2.2.2.1),(.int .i64 x4.2.2.2.2.2.2.2.2.2.2.2.2.2.1),(.str x4.2.2.2.2.2.2.2.2.2.2.2.2.2.2.1),(.slice x4.2.2.2.2.2.2.2.2.2.2.2.2.2.2.2.1.a x4.2.2.2.2.2.2.2.2.2.2.2.2.2.2.2.1.len x4.2.2.2.2.2.2.2.2.2.2.2.2.2.2.2.1.cap x4.2.2.2.2.2.2.2.2.2.2.2.2.2.2.2.1.sz),(.int .i64 x4.2.2.2.2.2.2.2.2.2.2.2.2.2.2.2.2.1),(.int .i64 x4.2.2.2.2.2.2.2.2.2.2.2.2.2.2.2.2.2.1),(.str x4.2.2.2.2.2.2.2.2.2.2.2.2.2.2.2.2.2.2.1),(.slice x4.2.2.2.2.2.2.2.2.2.2.2.2.2.2.2.2.2.2.2.1.a x4.2.2.2.2.2.2.2.2.2.2.2.2.2.2.2.2.2.2.2.1.len x4.2.2.2.2.2.2.2.2.2.2.2.2.2.2.2.2.2.2.2.1.cap x4.2.2.2.2.2.2.2.2.2.2.2.2.2.2.2.2.2.2.2.1.sz),(.int .i64 x4.2.2.2.2.2.2.2.2.2.2.2.2.2.2.2.2.2.2.2.2.1),(.str x4.2.2.2.2.2.2.2.2.2.2.2.2.2.2.2.2.2.2.2.2.2.1),(.slice x4.2.2.2.2.2.2.2.2.2.2.2.2.2.2.2.2.2.2.2.2.2.2.1.a x4.2.2.2.2.2.2.2.2.2.2.2.2.2.2.2.2.2.2.2.2.2.2.1.len x4.2.2.2.2.2.2.2.2.2.2.2.2.2.2.2.2.2.2.2.2.2.2.1.cap x4.2.2.2.2.2.2.2.2.2.2.2.2.2.2.2.2.2.2.2.2.2.2.1.sz),(.str x4.2.2.2.2.2.2.2.2.2.2.2.2.2.2.2.2.2.2.2.2.2.2.2.1),(.slice x4.2.2.2.2.2.2.2.2.2.2.2.2.2.2.2.2.2.2.2.2.2.2.2.2.1.a x4.2.2.2.2.2.2.2.2.2.2.2.2.2.2.2.2.2.2.2.2.2.2.2.2.1.len x4.2.2.2.2.2.2.2.2.2.2.2.2.2.2.2.2.2.2.2.2.2.2.2.2.1.cap x4.2.2.2.2.2.2.2.2.2.2.2.2.2.2.2.2.2.2.2.2.2.2.2.2.1.sz),(.slice x4.2.2.2.2.2.2.2.2.2.2.2.2.2.2.2.2.2.2.2.2.2.2.2.2.2.1.a x4.2.2.2.2.2.2.2.2.2.2.2.2.2.2.2.2.2.2.2.2.2.2.2.2.2.1.len x4.2.2.2.2.2.2.2.2.2.2.2.2.2.2.2.2.2.2.2.2.2.2.2.2.2.1.cap x4.2.2.2.2.2.2.2.2.2.2.2.2.2.2.2.2.2.2.2.2.2.2.2.2.2.1.sz),(.int .i64 x4.2.2.2.2.2.2.2.2.2.2.2.2.2.2.2.2.2.2.2.2.2.2.2.2.2.2.1),(.int .i64 x4.2.2.2.2.2.2.2.2.2.2.2.2.2.2.2.2.2.2.2.2.2.2.2.2.2.2.2.1),(.str x4.2.2.2.2.2.2.2.2.2.2.2.2.2.2.2.2.2.2.2.2.2.2.2.2.2.2.2.2.1),(.slice x4.2.2.2.2.2.2.2.2.2.2.2.2.2.2.2.2.2.2.2.2.2.2.2.2.2.2.2.2.2.1.a x4.2.2.2.2.2.2.2.2.2.2.2.2.2.2.2.2.2.2.2.2.2.2.2.2.2.2.2.2.2.1.len x4.2.2.2.2.2.2.2.2.2.2.2.2.2.2.2.2.2.2.2.2.2.2.2.2.2.2.2.2.2.1.cap x4.2.2.2.2.2.2.2.2.2.2.2.2.2.2.2.2.2.2.2.2.2.2.2.2.2.2.2.2.2.1.sz),(.slice x4.2.2.2.2.2.2.2.2.2.2.2.2.2.2.2.2.2.2.2.2.2.2.2.2.2.2.2.2.2.2.1.a x4.2.2.2.2.2.2.2.2.2.2.2.2.2.2.2.2.2.2.2.2.2.2.2.2.2.2.2.2.2.2.1.len x4.2.2.2.2.2.2.2.2.2.2.2.2.2.2.2.2.2.2.2.2.2.2.2.2.2.2.2.2.2.2.1.cap x4.2.2.2.2.2.2.2.2.2.2.2.2.2.2.2.2.2.2.2.2.2.2.2.2.2.2.2.2.2.2.1.sz),(.slice x4.2.2.2.2.2.2.2.2.2.2.2.2.2.2.2.2.2.2.2.2.2.2.2.2.2.2.2.2.2.2.2.1.a x4.2.2.2.2.2.2.2.2.2.2.2.2.2.2.2.2.2.2.2.2.2.2.2.2.2.2.2.2.2.2.2.1.len x4.2.2.2.2.2.2.2.2.2.2.2.2.2.2.2.2.2.2.2.2.2.2.2.2.2.2.2.2.2.2.2.1.cap x4.2.2.2.2.2.2.2.2.2.2.2.2.2.2.2.2.2.2.2.2.2.2.2.2.2.2.2.2.2.2.2.1.sz)]) fun h6=>
  (dA (.val zA) (h6.cells (h.next,0) 32) fun (x7:zP)=>
  let h8:Heap:=h6.push (.row [(.int .i64 0),(.int .i64 0),(.bool false),(.str []),(.int .i64 0),(.str []),(.slice none 0 0 0),(.slice none 0 0 0),(.bool false),(.str []),(.slice none 0 0 0),(.int .i64 0),(.int .i64 0),(.int .i64 0),(.str []),(.slice none 0 0 0),(.int .i64 0),(.int .i64 0),(.str []),(.slice none 0 0 0),(.int .i64 0),(.str []),(.slice none 0 0 0),(.str []),(.slice none 0 0 0),(.slice none 0 0 0),(.int .i64 0),(.int .i64 0),(.str []),(.slice none 0 0 0),(.slice none 0 0 0),(.slice none 0 0 0)] .own)
  (tA (h8.store (h6.next,0) [(.int .i64 x7.1),(.int .i64 x7.2.1),(.bool x7.2.2.1),(.str x7.2.2.2.1),(.int .i64 x7.2.2.2.2.1),(.str x7.2.2.2.2.2.1),(.slice x7.2.2.2.2.2.2.1.a x7.2.2.2.2.2.2.1.len x7.2.2.2.2.2.2.1.cap x7.2.2.2.2.2.2.1.sz),(.slice x7.2.2.2.2.2.2.2.1.a x7.2.2.2.2.2.2.2.1.len x7.2.2.2.2.2.2.2.1.cap x7.2.2.2.2.2.2.2.1.sz),(.bool x7.2.2.2.2.2.2.2.2.1),(.str x7.2.2.2.2.2.2.2.2.2.1),(.slice x7.2.2.2.2.2.2.2.2.2.2.1.a x7.2.2.2.2.2.2.2.2.2.2.1.len x7.2.2.2.2.2.2.2.2.2.2.1.cap x7.2.2.2.2.2.2.2.2.2.2.1.sz),(.int .i64 x7.2.2.2.2.2.2.2.2.2.2.2.1),(.int .i64 x7.2.2.2.2.2.2.2.2.2.2.2.2.1),(.int .i64 x7.2.2.2.2.2.2.2.2.2.2.2.2.2.1),(.str x7.2.2.2.2.2.2.2.2.2.2.2.2.2.2.1),(.slice x7.2.2.2.2.2.2.2.2.2.2.2.2.2.2.2.1.a x7.2.2.2.2.2.2.2.2.2.2.2.2.2.2.2.1.len x7.2.2.2.2.2.2.2.2.2.2.2.2.2.2.2.1.cap x7.2.2.2.2.2.2.2.2.2.2.2.2.2.2.2.1.sz),(.int .i64 x7.2.2.2.2.2.2.2.2.2.2.2.2.2.2.2.2.1),(.int .i64 x7.2.2.2.2.2.2.2.2.2.2.2.2.2.2.2.2.2.1),(.str x7.2.2.2.2.2.2.2.2.2.2.2.2.2.2.2.2.2.2.1),(.slice x7.2.2.2.2.2.2.2.2.2.2.2.2.2.2.2.2.2.2.2.1.a x7.2.2.2.2.2.2.2.2.2.2.2.2.2.2.2.2.2.2.2.1.len x7.2.2.2.2.2.2.2.2.2.2.2.2.2.2.2.2.2.2.2.1.cap x7.2.2.2.2.2.2.2.2.2.2.2.2.2.2.2.2.2.2.2.1.sz),(.int .i64 x7.2.2.2.2.2.2.2.2.2.2.2.2.2.2.2.2.2.2.2.2.1),(.str x7.2.2.2.2.2.2.2.2.2.2.2.2.2.2.2.2.2.2.2.2.2.1),(.slice x7.2.2.2.2.2.2.2.2.2.2.2.2.2.2.2.2.2.2.2.2.2.2.1.a x7.2.2.2.2.2.2.2.2.2.2.2.2.2.2.2.2.2.2.2.2.2.2.1.len x7.2.2.2.2.2.2.2.2.2.2.2.2.2.2.2.2.2.2.2.2.2.2.1.cap x7.2.2.2.2.2.2.2.2.2.2.2.2.2.2.2.2.2.2.2.2.2.2.1.sz),(.str x7.2.2.2.2.2.2.2.2.2.2.2.2.2.2.2.2.2.2.2.2.2.2.2.1),(.slice x7.2.2.2.2.2.2.2.2.2.2.2.2.2.2.2.2.2.2.2.2.2.2.2.2.1.a x7.2.2.2.2.2.2.2.2.2.2.2.2.2.2.2.2.2.2.2.2.2.2.2.2.1.len x7.2.2.2.2.2.2.2.2.2.2.2.2.2.2.2.2.2.2.2.2.2.2.2.2.1.cap x7.2.2.2.2.2.2.2.2.2.2.2.2.2.2.2.2.2.2.2.2.2.2.2.2.1.sz),(.slice x7.2.2.2.2.2.2.2.2.2.2.2.2.2.2.2.2.2.2.2.2.2.2.2.2.2.1.a x7.2.2.2.2.2.2.2.2.2.2.2.2.2.2.2.2.2.2.2.2.2.2.2.2.2.1.len x7.2.2.2.2.2.2.2.2.2.2.2.2.2.2.2.2.2.2.2.2.2.2.2.2.2.1.cap x7.2.2.2.2.2.2.2.2.2.2.2.2.2.2.2.2.2.2.2.2.2.2.2.2.2.1.sz),(.int .i64 x7.2.2.2.2.2.2.2.2.2.2.2.2.2.2.2.2.2.2.2.2.2.2.2.2.2.2.1),(.int .i64 x7.2.2.2.2.2.2.2.2.2.2.2.2.2.2.2.2.2.2.2.2.2.2.2.2.2.2.2.1),(.str x7.2.2.2.2.2.2.2.2.2.2.2.2.2.2.2.2.2.2.2.2.2.2.2.2.2.2.2.2.1),(.slice x7.2.2.2.2.2.2.2.2.2.2.2.2.2.2.2.2.2.2.2.2.2.2.2.2.2.2.2.2.2.1.a x7.2.2.2.2.2.2.2.2.2.2.2.2.2.2.2.2.2.2.2.2.2.2.2.2.2.2.2.2.2.1.len x7.2.2.2.2.2.2.2.2.2.2.2.2.2.2.2.2.2.2.2.2.2.2.2.2.2.2.2.2.2.1.cap x7.2.2.2.2.2.2.2.2.2.2.2.2.2.2.2.2.2.2.2.2.2.2.2.2.2.2.2.2.2.1.sz),(.slice x7.2.2.2.2.2.2.2.2.2.2.2.2.2.2.2.2.2.2.2.2.2.2.2.2.2.2.2.2.2.2.1.a x7.2.2.2.2.2.2.2.2.2.2.2.2.2.2.2.2.2.2.2.2.2.2.2.2.2.2.2.2.2.2.1.len x7.2.2.2.2.2.2.2.2.2.2.2.2.2.2.2.2.2.2.2.2.2.2.2.2.2.2.2.2.2.2.1.cap x7.2.2.2.2.2.2.2.2.2.2.2.2.2.2.2.2.2.2.2.2.2.2.2.2.2.2.2.2.2.2.1.sz),(.slice x7.2.2.2.2.2.2.2.2.2.2.2.2.2.2.2.2.2.2.2.2.2.2.2.2.2.2.2.2.2.2.2.1.a x7.2.2.2.2.2.2.2.2.2.2.2.2.2.2.2.2.2.2.2.2.2.2.2.2.2.2.2.2.2.2.2.1.len x7.2.2.2.2.2.2.2.2.2.2.2.2.2.2.2.2.2.2.2.2.2.2.2.2.2.2.2.2.2.2.2.1.cap x7.2.2.2.2.2.2.2.2.2.2.2.2.2.2.2.2.2.2.2.2.2.2.2.2.2.2.2.2.2.2.2.1.sz)]) fun h9=>
  (tA (h9.store ((h6.next,0).1,(h6.next,0).2+0) [(.int .i64 0)]) fun h10=>
  (tA (h10.store ((h6.next,0).1,(h6.next,0).2+1) [(.int .i64 0)]) fun h11=>
  (tA (h11.store ((h6.next,0).1,(h6.next,0).2+30) [(.slice none 0 0 0)]) fun h12=>
  (tA (h12.store ((h6.next,0).1,(h6.next,0).2+31) [(.slice none 0 0 0)]) fun h13=>
  (tA (α:=Sum (zW×Heap) (Sum (zA1×Heap) (Empty))) (
 gB1 N v0 v1 v4 v5 h.next h6.next h13) fun j81=>
  (bC j81 (fun (j82:zW) h83=>
   (kA (α:=zW) (
 yB4 N j82 h83) fun (j107:zW) h108=>
   iB1 N rec88 j107 h108)) fun j84=>
  (bC j84 (fun (j201:zA1) h202=>
   some (Sum.inr (Sum.inl ((j201.1,()),h202)))) fun _=>
  none))))))))))))) fun j204=>
  (bC j204 (fun (j205:zW1) h206=>
  let x208:Int:=bB .i64 (j205.2.2.2.1+1)
  go j205.1 j205.2.1 j205.2.2.1 x208 h206) fun j207=>
  (bC j207 (fun (j209:zA1) h210=>
  some (Out.ret,(j209.1,()),h210)) fun _=>
  none)))
 else
  some ((Out.exit 0),(v4,()),h))
 ):=rfl
end Qp
namespace Qp
structure RdS (G:Heap) (A:Nat) (rr:SmR):Prop where
 k:G.cell (A,0)=some (.int .i64 rr.k)
 nm:G.cell (A,3)=some (.str rr.nm)
 ty:G.cells (A,4) 4=some (.agg (tyc rr.ty))
 has:G.cell (A,8)=some (.bool rr.has)
 pl:G.cells (A,9) 2=some (.agg (lfc rr.pl))
 va:G.cells (A,11) 15=some (.agg (vac rr.va))
 vk:G.cell (A,11)=some (.int .i64 rr.va.1)
 co:G.cells (A,26) 4=some (.agg (opc rr.co))
 th:G.cell (A,30)=some (.slice rr.th.a rr.th.len rr.th.cap rr.th.sz)
 el:G.cell (A,31)=some (.slice rr.el.a rr.el.len rr.el.cap rr.el.sz)
theorem RdS.of {G:Heap} {A:Nat} {rr:SmR} (o:G.own A (smc rr)):RdS G A rr:=⟨o.cell 0,o.cell 3,o.cells (j:=4) (m:=4) (show 4+4≤32 by decide),o.cell 8,o.cells (j:=9) (m:=2) (show 9+2≤32 by decide),o.cells (j:=11) (m:=15) (show 11+15≤32 by decide),o.cell 11,o.cells (j:=26) (m:=4) (show 26+4≤32 by decide),o.cell 30,o.cell 31⟩
def z0R (rr:SmR):SmR:={ rr with k:=0,at_:=0,th:=sl0,el:=sl0 }
inductive SwR (rr:SmR) (ty pl va co:D):Bool→Bool→Bool→SmR→Prop
 | let_ {ok} (hk:rr.k=1) (h:ok=true→yC rr.nm=true∧gJ 64 ty):SwR rr ty pl va co ok false false { z0R rr with m:=false,nm:=[],ty:=mA4 }
 | set {ok} (hk:rr.k=2) (h:ok=true→qL pl∧mayVa va):SwR rr ty pl va co ok false false { z0R rr with pl:=lf0,va:=va0 }
 | call {ok} (hk:rr.k=3) (h:ok=true→mayVa va∧rr.va.1=6):SwR rr ty pl va co ok false false { z0R rr with va:=va0 }
 | if_ {ok} (hk:rr.k=4) (h:ok=true→oD co):SwR rr ty pl va co ok true rr.has { z0R rr with co:=eI,has:=false }
 | while_ {ok} (hk:rr.k=5) (h:ok=true→oD co):SwR rr ty pl va co ok true false { z0R rr with co:=eI }
 | loop {ok} (hk:rr.k=6∨rr.k=7):SwR rr ty pl va co ok true false (z0R rr)
 | break_ {ok} (hk:rr.k=8∨rr.k=9∨rr.k=10):SwR rr ty pl va co ok false false (z0R rr)
 | drop {ok} (hk:rr.k=11) (h:ok=true→qL pl):SwR rr ty pl va co ok false false { z0R rr with pl:=lf0 }
section
variable {N:Nat} {h:Heap} {V:Nat→Prop}
theorem mAn (hN:100≤N) {HA H:Heap} {A:Nat} {rr z:SmR} {va:D} (hva:rVa va) (hw:wtD va<N) (hwl:wtD va≤9223372036854775807) (oA:HA.own A (smc rr)) (w:W1 HA H (smc z)) (xv:Dt HA V va (vac rr.va)) (v0:SL) (v1:Int) (v4:Bool) (v5:Int) (ok th el:Bool) :
  ∃ ok' z' H',yB4 N (v0,v1,v4,v5,some (A,0),some (HA.next,0),ok,th,el,()) H=some ((v0,v1,v4,v5,some (A,0),some (HA.next,0),ok',th,el,()),H')∧W1 HA H' (smc z')∧
   (((rr.k=1∨rr.k=10)∧rr.has=true∧z' = { z with va:=va0,has:=false }∧(ok'=true→ok=true∧mayVa va))∨(¬ ((rr.k=1∨rr.k=10)∧rr.has=true)∧z'=z∧ok'=ok)):=by
 unfold yB4;have r:=RdS.of (oA.chg w.c (by simp));have hA:A<HA.next:=oA.2;simp only [fA,Nat.zero_add,Nat.add_zero,r.k,r.has,bA,fB,kB]
 -- where there is one
 have yes:(rr.k=1∨rr.k=10)∧rr.has=true→∃ ok' z' H',(kA (α:=J9) (bif ok then (dA (.val zC) (H.cells (A,11) 15) fun (x98:VaV)=>(kA (f136 N (tV x98) H) fun (x99:Bool) h100=>some ((v0,v1,v4,v5,some (A,0),some (HA.next,0),x99,th,el,()),h100))) else some ((v0,v1,v4,v5,some (A,0),some (HA.next,0),false,th,el,()),H)) fun (j101:J9) h102=>
   (tA j101.2.2.2.2.2.1 fun q103=>(tA (h102.store (q103.1,q103.2+11) yZB) fun h104=>(tA j101.2.2.2.2.2.1 fun q105=>(tA (h104.store (q105.1,q105.2+8) [(.bool false)]) fun h106=>some ((j101.1,j101.2.1,j101.2.2.1,j101.2.2.2.1,j101.2.2.2.2.1,j101.2.2.2.2.2.1,j101.2.2.2.2.2.2.1,j101.2.2.2.2.2.2.2.1,j101.2.2.2.2.2.2.2.2.1,()),h106))))))=some ((v0,v1,v4,v5,some (A,0),some (HA.next,0),ok',th,el,()),H')∧W1 HA H' (smc z')∧
   (((rr.k=1∨rr.k=10)∧rr.has=true∧z' = { z with va:=va0,has:=false }∧(ok'=true→ok=true∧mayVa va))∨(¬ ((rr.k=1∨rr.k=10)∧rr.has=true)∧z'=z∧ok'=ok)):=by
  intro hk;have fst:∃ ok' H1,(bif ok then (dA (.val zC) (H.cells (A,11) 15) fun (x98:VaV)=>(kA (f136 N (tV x98) H) fun (x99:Bool) h100=>some (((v0,v1,v4,v5,some (A,0),some (HA.next,0),x99,th,el,()):J9),h100))) else some ((v0,v1,v4,v5,some (A,0),some (HA.next,0),false,th,el,()),H))=some ((v0,v1,v4,v5,some (A,0),some (HA.next,0),ok',th,el,()),H1)∧Chg [] H H1∧(ok'=true→ok=true∧mayVa va):=by
   cases ok with
   | false=>exact ⟨false,H,rfl,Chg.refl _ _,fun h=>by cases h⟩
   | true=>
    simp only [cond_true];rw [r.va,pV];obtain ⟨b,H1,e,c,hb⟩:=bA2 (N:=N) hN hva hw (Dt.chg w.c (by simp) xv) hwl;have e':f136 N (tV rr.va) H=some (b,H1):=e;rw [e',aA];exact ⟨b,H1,rfl,c,fun h=>⟨by trivial,hb h⟩⟩
  obtain ⟨ok',H1,e1,c1,hok⟩:=fst;rw [e1,aA];obtain ⟨H2,p2,w2,c2,n2⟩:=(w.call c1).set (j:=11) (vs:=yZB) (show 11+15≤32 by decide) (ds:=smc { z with va:=va0 }) (by simp only [smc,smx,smv];rfl);obtain ⟨H3,p3,w3,c3,n3⟩:=w2.set (j:=8) (vs:=[(.bool false)]) (show 8+1≤32 by decide) (ds:=smc { z with va:=va0,has:=false }) (by simp only [smc,smx,smv];rfl);simp only [fA,Nat.zero_add];rw [p2,p3];exact ⟨ok',_,H3,rfl,w3,.inl ⟨hk.1,hk.2,rfl,hok⟩⟩
 by_cases k1:rr.k=1
 ·have q:iA rr.k 1=true:=by rw [k1];rfl
  simp only [q,cond_true,aA]
  cases hh:rr.has with
  | false=>exact ⟨ok,z,H,rfl,w,.inr ⟨(fun h=>by cases h.2),rfl,rfl⟩⟩
  | true=>
   have:=yes ⟨.inl k1,hh⟩
   rw [hh] at this;exact this
 have q1:iA rr.k 1=false:=by rw [eqI];exact decide_eq_false k1
 by_cases k10:rr.k=10
 ·have q:iA rr.k 10=true:=by rw [k10];rfl
  simp only [q1,q,cond_true,cond_false,aA]
  cases hh:rr.has with
  | false=>exact ⟨ok,z,H,rfl,w,.inr ⟨(fun h=>by cases h.2),rfl,rfl⟩⟩
  | true=>
   have:=yes ⟨.inr k10,hh⟩
   rw [hh] at this;exact this
 have q:iA rr.k 10=false:=by rw [eqI];exact decide_eq_false k10
 simp only [q1,q,cond_true,cond_false,aA];exact ⟨ok,z,H,rfl,w,.inr ⟨(fun h=>by rcases h.1 with h | h <;> contradiction),rfl,rfl⟩⟩
end
end Qp
namespace Qp
section
variable {N:Nat} {h:Heap} {V:Nat→Prop}
theorem bF {k n:Int} (h:k≠n):iA k n=false:=by rw [eqI];exact decide_eq_false h
theorem cF {k n:Int} (h:k=n):iA k n=true:=by rw [eqI];exact decide_eq_true h
set_option maxHeartbeats 4000000 in
theorem nAn (hN:100≤N) {HA H:Heap} {A:Nat} {rr:SmR} {ty pl va co:D} (ht:rTy ty) (htw:Wt Tryz.prog ty 41) (hty:wtD ty<N) (hp:rLf pl) (hva:rVa va) (hco:rOp co) (hw:wtD va<N) (hwl:wtD va≤9223372036854775807) (oA:HA.own A (smc rr)) (w:W1 HA H (smc (z0R rr)))
  (xt:Dt HA V ty (tyc rr.ty)) (xp:Dt HA V pl (lfc rr.pl)) (xv:Dt HA V va (vac rr.va)) (xc:Dt HA V co (opc rr.co)) (v0:SL) (v1:Int) (v4:Bool) (v5:Int) :
  (∃ ok th el z H',gB1 N v0 v1 v4 v5 A HA.next H=some (Sum.inl ((v0,v1,v4,v5,some (A,0),some (HA.next,0),ok,th,el,()),H'))∧W1 HA H' (smc z)∧SwR rr ty pl va co ok th el z)∨∃ H',gB1 N v0 v1 v4 v5 A HA.next H=some (Sum.inr (Sum.inl ((false,()),H')))∧Chg [] HA H':=by
 unfold gB1;have r:=RdS.of (oA.chg w.c (by simp));have rd:∀ {G:Heap},Chg [] HA G→RdS G A rr:=fun c=>RdS.of (oA.chg c (by simp));have hA:A<HA.next:=oA.2;have up:∀ {G:Heap} {cs:List AV} {d:D} {ds:List AV},W1 HA G cs→Dt HA V d ds→Dt G V d ds:=fun w y=>Dt.chg w.c (by simp) y;simp only [fA,Nat.zero_add,Nat.add_zero,r.k,bA,fB]
 by_cases k1:rr.k=1
 ·left
  simp only [cF k1,cond_true,r.nm,bA,qA];obtain ⟨H1,e1,c1⟩:=gI (N:=N) (by omega) rr.nm H;have w1:=w.call c1;have fst:∃ ok H2,(kA (f46 N rr.nm H) fun (x17:Bool) h18=>(bif x17 then (dA (.val zE) (h18.cells (A,4) 4) fun (x19:TyV)=>(kA (f21 N N (x19.1,x19.2.1,x19.2.2.1,x19.2.2.2.1,()) 1 h18) fun (x20:Bool) h21=>some (((v0,v1,v4,v5,some (A,0),some (HA.next,0),x20,false,false,()):J9),h21))) else some ((v0,v1,v4,v5,some (A,0),some (HA.next,0),false,false,false,()),h18)))=some ((v0,v1,v4,v5,some (A,0),some (HA.next,0),ok,false,false,()),H2)∧W1 HA H2 (smc (z0R rr))∧(ok=true→yC rr.nm=true∧gJ 64 ty):=by
   rw [e1,aA]
   cases hn:yC rr.nm with
   | false=>exact ⟨false,H1,rfl,w1,fun h=>by cases h⟩
   | true=>
    simp only [cond_true];rw [(rd w1.c).ty,yR];obtain ⟨b,H2,e2,c2,hb⟩:=vAh (N:=N) hN 64 N H1 rr.ty ty V (by omega) (Nat.le_refl _) hty htw (up w1 xt);have e2':f21 N N (rr.ty.1,rr.ty.2.1,rr.ty.2.2.1,rr.ty.2.2.2.1,()) 1 H1=some (b,H2):=e2;rw [e2',aA];exact ⟨b,H2,rfl,w1.call c2,fun h=>⟨by trivial,hb h⟩⟩
  obtain ⟨ok,H2,e2,w2,hok⟩:=fst;rw [e2,aA];obtain ⟨H3,p3,w3,c3,n3⟩:=w2.set (j:=2) (vs:=[(.bool false)]) (show 2+1≤32 by decide) (ds:=smc { z0R rr with m:=false }) (by simp only [smc,smx,smv];rfl);obtain ⟨H4,p4,w4,c4,n4⟩:=w3.set (j:=3) (vs:=[(.str [])]) (show 3+1≤32 by decide) (ds:=smc { z0R rr with m:=false,nm:=[] }) (by simp only [smc,smx,smv];rfl);obtain ⟨H5,p5,w5,c5,n5⟩:=w4.set (j:=4) (vs:=[(.int .i64 0),(.str []),(.slice none 0 0 0),(.slice none 0 0 0)]) (show 4+4≤32 by decide) (ds:=smc { z0R rr with m:=false,nm:=[],ty:=mA4 }) (by simp only [smc,smx,smv];rfl);simp only [fA,Nat.zero_add];rw [p3,p4,p5];exact ⟨ok,false,false,_,H5,rfl,w5,.let_ k1 hok⟩
 simp only [bF k1,cond_false]
 by_cases k2:rr.k=2
 ·left
  simp only [cF k2,cond_true];have fst:∃ ok H2,(dA (.val zG) (H.cells (A,9) 2) fun (x31:LfV)=>(kA (f135 N (x31.1,x31.2.1,()) H) fun (x32:Bool) h33=>(bif x32 then (dA (.val yV) (h33.cells (A,11) 15) fun (x34:VaV)=>(kA (f136 N (tV x34) h33) fun (x35:Bool) h36=>some (((v0,v1,v4,v5,some (A,0),some (HA.next,0),x35,false,false,()):J9),h36))) else some ((v0,v1,v4,v5,some (A,0),some (HA.next,0),false,false,false,()),h33))))=some ((v0,v1,v4,v5,some (A,0),some (HA.next,0),ok,false,false,()),H2)∧W1 HA H2 (smc (z0R rr))∧(ok=true→qL pl∧mayVa va):=by
   rw [r.pl,pM];obtain ⟨b1,H1,e1,c1,hb1⟩:=dS (N:=N) hN hp (up w xp);have e1':f135 N (rr.pl.1,rr.pl.2.1,()) H=some (b1,H1):=e1;rw [e1',aA];have w1:=w.call c1
   cases b1 with
   | false=>exact ⟨false,H1,rfl,w1,fun h=>by cases h⟩
   | true=>
    simp only [cond_true];rw [(rd w1.c).va,pV];obtain ⟨b2,H2,e2,c2,hb2⟩:=bA2 (N:=N) hN hva hw (up w1 xv) hwl;have e2':f136 N (tV rr.va) H1=some (b2,H2):=e2;rw [e2',aA];exact ⟨b2,H2,rfl,w1.call c2,fun h=>⟨hb1 rfl,hb2 h⟩⟩
  obtain ⟨ok,H2,e2,w2,hok⟩:=fst;show ∃ ok th el z H',(kA (α:=J9) (dA (.val zG) (H.cells (A,9) 2) fun (x31:LfV)=>(kA (f135 N (x31.1,x31.2.1,()) H) fun (x32:Bool) h33=>(bif x32 then (dA (.val yV) (h33.cells (A,11) 15) fun (x34:VaV)=>(kA (f136 N (tV x34) h33) fun (x35:Bool) h36=>some (((v0,v1,v4,v5,some (A,0),some (HA.next,0),x35,false,false,()):J9),h36))) else some ((v0,v1,v4,v5,some (A,0),some (HA.next,0),false,false,false,()),h33)))) _)=_∧_;rw [e2,aA];obtain ⟨H3,p3,w3,c3,n3⟩:=w2.set (j:=9) (vs:=[(.str []),(.slice none 0 0 0)]) (show 9+2≤32 by decide) (ds:=smc { z0R rr with pl:=lf0 }) (by simp only [smc,smx,smv];rfl);obtain ⟨H4,p4,w4,c4,n4⟩:=w3.set (j:=11) (vs:=yZB) (show 11+15≤32 by decide) (ds:=smc { z0R rr with pl:=lf0,va:=va0 }) (by simp only [smc,smx,smv];rfl);simp only [fA,Nat.zero_add];rw [p3,p4];exact ⟨ok,false,false,_,H4,rfl,w4,.set k2 hok⟩
 simp only [bF k2,cond_false]
 by_cases k3:rr.k=3
 ·left
  simp only [cF k3,cond_true];have fst:∃ ok H2,(dA (.val yV) (H.cells (A,11) 15) fun (x34:VaV)=>(kA (f136 N (tV x34) H) fun (x35:Bool) h36=>(bif x35 then (dA (.val zJ2) (h36.cell (A,11)) fun (x47:Int)=>some (((v0,v1,v4,v5,some (A,0),some (HA.next,0),iA x47 6,false,false,()):J9),h36)) else some ((v0,v1,v4,v5,some (A,0),some (HA.next,0),false,false,false,()),h36))))=some ((v0,v1,v4,v5,some (A,0),some (HA.next,0),ok,false,false,()),H2)∧W1 HA H2 (smc (z0R rr))∧(ok=true→mayVa va∧rr.va.1=6):=by
   rw [r.va,pV];obtain ⟨b2,H2,e2,c2,hb2⟩:=bA2 (N:=N) hN hva hw (up w xv) hwl;have e2':f136 N (tV rr.va) H=some (b2,H2):=e2;rw [e2',aA];have w2:=w.call c2
   cases b2 with
   | false=>exact ⟨false,H2,rfl,w2,fun h=>by cases h⟩
   | true=>
    simp only [cond_true,(rd w2.c).vk,bA,fB];refine ⟨_,H2,rfl,w2,fun h=>⟨hb2 rfl,?_⟩⟩;rw [eqI,decide_eq_true_eq] at h;exact h
  obtain ⟨ok,H2,e2,w2,hok⟩:=fst;show ∃ ok th el z H',(kA (α:=J9) (dA (.val yV) (H.cells (A,11) 15) fun (x34:VaV)=>(kA (f136 N (tV x34) H) fun (x35:Bool) h36=>(bif x35 then (dA (.val zJ2) (h36.cell (A,11)) fun (x47:Int)=>some (((v0,v1,v4,v5,some (A,0),some (HA.next,0),iA x47 6,false,false,()):J9),h36)) else some ((v0,v1,v4,v5,some (A,0),some (HA.next,0),false,false,false,()),h36)))) _)=_∧_;rw [e2,aA];obtain ⟨H4,p4,w4,c4,n4⟩:=w2.set (j:=11) (vs:=yZB) (show 11+15≤32 by decide) (ds:=smc { z0R rr with va:=va0 }) (by simp only [smc,smx,smv];rfl);simp only [fA,Nat.zero_add];rw [p4];exact ⟨ok,false,false,_,H4,rfl,w4,.call k3 hok⟩
 simp only [bF k3,cond_false]
 by_cases k4:rr.k=4
 ·left
  simp only [cF k4,cond_true];rw [r.co,iK];obtain ⟨b1,H1,e1,c1,hb1⟩:=lL (N:=N) hN hco (up w xc);have e1':f137 N (rr.co.1,rr.co.2.1,rr.co.2.2.1,rr.co.2.2.2.1,()) H=some (b1,H1):=e1;rw [e1',aA];have w1:=w.call c1;have r1:=rd w1.c;have sC:rB (some (.agg (opc rr.co))) (.agg [(.int .i64 rr.co.1),(.int .i64 rr.co.2.1),(.str rr.co.2.2.1),(.slice rr.co.2.2.2.1.a rr.co.2.2.2.1.len rr.co.2.2.2.1.cap rr.co.2.2.2.1.sz)])=true:=eC _;simp only [r1.has,r.has,bA,kB,eC,sC,cond_true,jC];obtain ⟨H3,p3,w3,c3,n3⟩:=w1.set (j:=26) (vs:=[(.int .i64 0),(.int .i64 0),(.str []),(.slice none 0 0 0)]) (show 26+4≤32 by decide) (ds:=smc { z0R rr with co:=eI }) (by simp only [smc,smx,smv];rfl);obtain ⟨H4,p4,w4,c4,n4⟩:=w3.set (j:=8) (vs:=[(.bool false)]) (show 8+1≤32 by decide) (ds:=smc { z0R rr with co:=eI,has:=false }) (by simp only [smc,smx,smv];rfl);rw [p3,p4];exact ⟨b1,true,rr.has,_,H4,rfl,w4,.if_ k4 hb1⟩
 simp only [bF k4,cond_false]
 by_cases k5:rr.k=5
 ·left
  simp only [cF k5,cond_true];rw [r.co,iK];obtain ⟨b1,H1,e1,c1,hb1⟩:=lL (N:=N) hN hco (up w xc);have e1':f137 N (rr.co.1,rr.co.2.1,rr.co.2.2.1,rr.co.2.2.2.1,()) H=some (b1,H1):=e1;rw [e1',aA];have w1:=w.call c1;obtain ⟨H3,p3,w3,c3,n3⟩:=w1.set (j:=26) (vs:=[(.int .i64 0),(.int .i64 0),(.str []),(.slice none 0 0 0)]) (show 26+4≤32 by decide) (ds:=smc { z0R rr with co:=eI }) (by simp only [smc,smx,smv];rfl);rw [p3];exact ⟨b1,true,false,_,H3,rfl,w3,.while_ k5 hb1⟩
 simp only [bF k5,cond_false]
 by_cases k6:rr.k=6
 ·left
  simp only [cF k6,cond_true,aA];exact ⟨_,_,_,_,H,rfl,w,.loop (.inl k6)⟩
 simp only [bF k6,cond_false]
 by_cases k7:rr.k=7
 ·left
  simp only [cF k7,cond_true,aA];exact ⟨_,_,_,_,H,rfl,w,.loop (.inr k7)⟩
 simp only [bF k7,cond_false,aA]
 by_cases k8:rr.k=8
 ·left
  simp only [cF k8,cond_true,aA];exact ⟨_,_,_,_,H,rfl,w,.break_ (.inl k8)⟩
 simp only [bF k8,cond_false]
 by_cases k9:rr.k=9
 ·left
  simp only [cF k9,cond_true,aA];exact ⟨_,_,_,_,H,rfl,w,.break_ (.inr (.inl k9))⟩
 simp only [bF k9,cond_false]
 by_cases k10:rr.k=10
 ·left
  simp only [cF k10,cond_true,aA];exact ⟨_,_,_,_,H,rfl,w,.break_ (.inr (.inr k10))⟩
 simp only [bF k10,cond_false,aA]
 by_cases k11:rr.k=11
 ·left
  simp only [cF k11,cond_true,fA,Nat.zero_add];rw [r.pl,pM];obtain ⟨b1,H1,e1,c1,hb1⟩:=dS (N:=N) hN hp (up w xp);have e1':f135 N (rr.pl.1,rr.pl.2.1,()) H=some (b1,H1):=e1;rw [e1',aA];have w1:=w.call c1;obtain ⟨H3,p3,w3,c3,n3⟩:=w1.set (j:=9) (vs:=[(.str []),(.slice none 0 0 0)]) (show 9+2≤32 by decide) (ds:=smc { z0R rr with pl:=lf0 }) (by simp only [smc,smx,smv];rfl);rw [p3];exact ⟨b1,false,false,_,H3,rfl,w3,.drop k11 hb1⟩
 simp only [bF k11,cond_false];exact .inr ⟨H,rfl,w.c⟩
end
end Qp
namespace Qp
structure TlR (HA H':Heap) (rr z:SmR) (ok th el:Bool) (Pt Pe:Prop):Prop where
 c:Chg [] HA H'
 ok:ok=true
 z:zSm z=true
 t0:th=false→rr.th.len=0
 e0:el=false→rr.el.len=0
 t:th=true→Pt
 e:el=true→Pe
section
variable {N:Nat} {h:Heap} {V:Nat→Prop}
theorem lt0 (n:Nat):ltInt 0 (Int.ofNat n)=decide (0<n):=by
 rw [ltI]
 by_cases h:0<n
 ·rw [decide_eq_true h,decide_eq_true];exact Int.ofNat_lt.2 h
 ·rw [decide_eq_false h,decide_eq_false];intro h';exact h (Int.ofNat_lt.1 h')
theorem oAn (hN:100≤N) {rec88:SL→Int→Heap→Option (Bool×Heap)} {HA H:Heap} {A:Nat} {rr z:SmR} (hzt:z.th=sl0) (hze:z.el=sl0) (oA:HA.own A (smc rr)) (w:W1 HA H (smc z)) (v0:SL) (v1:Int) (v4:Bool) (v5:Int) (ok th el:Bool) {Pt Pe:Prop}
  (hrt:∀ G,Chg [] HA G→∃ b G',rec88 rr.th (bB .i64 (v1+1)) G=some (b,G')∧Chg [] G G'∧(b=true→Pt)) (hre:∀ G,Chg [] HA G→∃ b G',rec88 rr.el (bB .i64 (v1+1)) G=some (b,G')∧Chg [] G G'∧(b=true→Pe)) :
  (∃ H',iB1 N rec88 (v0,v1,v4,v5,some (A,0),some (HA.next,0),ok,th,el,()) H=some (Sum.inl ((v0,v1,v4,v5,()),H'))∧TlR HA H' rr z ok th el Pt Pe)∨
   ∃ H',iB1 N rec88 (v0,v1,v4,v5,some (A,0),some (HA.next,0),ok,th,el,()) H=some (Sum.inr (Sum.inl ((false,()),H')))∧Chg [] HA H':=by
 unfold iB1
 cases ok with
 | false=>exact .inr ⟨H,rfl,w.c⟩
 | true=>
 simp only [Bool.not_true,cond_false,fA];have cB:H.cells (HA.next,0) 32=some (.agg (smx (smv z))):=w.o.cells (j:=0) (m:=32) (Nat.le_refl _);rw [cB,uG];have o1:=vA H (smc z);have c1:=uA H (.row (smc z) .own);have e1:H.push (.row (yRA (smv z)) .own)=H.push (.row (smc z) .own):=rfl;rw [e1];generalize H.push (.row (smc z) .own)=H1 at *;have o2:=vA H1 (smc (gF 0));have c2:=uA H1 (.row (smc (gF 0)) .own);have e2:H1.push (.row yZA .own)=H1.push (.row (smc (gF 0)) .own):=rfl;rw [e2];have o12:=o1.chg c2 (by simp);generalize H1.push (.row (smc (gF 0)) .own)=H2 at *;obtain ⟨H3,e3,c3⟩:=kAz (N:=N) (by omega) (M:=N) (by omega) z hzt hze o12 o2;rw [e3,aA];have c03:Chg [] HA H3:=((w.c.trans c1).trans c2).trans c3;have rd:∀ {G:Heap},Chg [] HA G→RdS G A rr:=fun c=>RdS.of (oA.chg c (by simp));have r3:=rd c03
 cases hz:zSm z with
 | false=>exact .inr ⟨H3,rfl,c03⟩
 | true=>
 simp only [Bool.not_true,cond_false]
 cases th with
 | false=>
  simp only [Bool.not_false,cond_true,cond_false,Nat.zero_add,r3.th,r3.el,bA,jA,lt0]
  by_cases q:0<rr.th.len
  ·simp only [q,decide_true,cond_true]
   exact .inr ⟨H3,rfl,c03⟩
  ·simp only [q,decide_false,cond_false]
   have q0:rr.th.len=0:=by omega
   cases el with
   | false=>
    simp only [Bool.not_false,cond_true,cond_false]
    by_cases p:0<rr.el.len
    ·simp only [p,decide_true,cond_true]
     exact .inr ⟨H3,rfl,c03⟩
    ·simp only [p,decide_false,cond_false]
     exact .inl ⟨H3,rfl,⟨c03,rfl,hz,fun _=>q0,(fun _=>by omega),(fun h=>by cases h),(fun h=>by cases h)⟩⟩
   | true=>
    simp only [Bool.not_true,cond_true,cond_false];obtain ⟨b,H4,e4,c4,hb⟩:=hre H3 c03;rw [e4,aA]
    cases b with
    | false=>exact .inr ⟨H4,rfl,c03.trans c4⟩
    | true=>exact .inl ⟨H4,rfl,⟨c03.trans c4,rfl,hz,fun _=>q0,(fun h=>by cases h),(fun h=>by cases h),fun _=>hb rfl⟩⟩
 | true=>
  simp only [Bool.not_true,cond_true,cond_false,Nat.zero_add,r3.th,r3.el,bA,jA,lt0];obtain ⟨b,H4,e4,c4,hb⟩:=hrt H3 c03;have c04:=c03.trans c4
  cases el with
  | false=>
   simp only [Bool.not_false,cond_true,cond_false]
   by_cases p:0<rr.el.len
   ·simp only [p,decide_true,cond_true]
    exact .inr ⟨H3,rfl,c03⟩
   ·simp only [p,decide_false,cond_false]
    rw [e4,aA]
    cases b with
    | false=>exact .inr ⟨H4,rfl,c04⟩
    | true=>exact .inl ⟨H4,rfl,⟨c04,rfl,hz,(fun h=>by cases h),(fun _=>by omega),fun _=>hb rfl,(fun h=>by cases h)⟩⟩
  | true=>
   simp only [Bool.not_true,cond_true,cond_false];rw [e4,aA]
   cases b with
   | false=>exact .inr ⟨H4,rfl,c04⟩
   | true=>
    simp only [Bool.not_true,cond_false,(rd c04).el,bA,jA];obtain ⟨b',H5,e5,c5,hb'⟩:=hre H4 c04;rw [e5,aA]
    cases b' with
    | false=>exact .inr ⟨H5,rfl,c04.trans c5⟩
    | true=>exact .inl ⟨H5,rfl,⟨c04.trans c5,rfl,hz,(fun h=>by cases h),(fun h=>by cases h),fun _=>hb rfl,fun _=>hb' rfl⟩⟩
end
end Qp
namespace Qp
def kdD:D→Int
 | .t (.i k::_)=>k
 | _=>0
section
variable {N:Nat} {h:Heap} {V:Nat→Prop}
theorem cY {d:D} (hd:rVa d) {r:VaV} (x:Dt h V d (vac r)) (hz:zVa r=true):d=va00:=by
 obtain ⟨k,a,b,op,pl,nm,ns,ag,rfl,ta,tb,tp,tg⟩:=hd;obtain ⟨ra,rb,rp,s1,s2,hc,xa,xb,xp,y1,y2⟩:=qAc ta tb tp x;obtain rfl:=mK hc;obtain ⟨z0,z1,z2,z3,z4,z5,z6,z7⟩:=bY hz;obtain rfl:=aG ta xa z3;obtain rfl:=aG tb xb z4;obtain rfl:=yF tp xp z5;rw [y1.len,List.length_map] at z6;rw [y2.len] at z7;obtain rfl:=List.length_eq_zero_iff.1 z6;obtain rfl:=List.length_eq_zero_iff.1 z7;subst z0 z1 z2;rfl
theorem lAz {d:D} (hd:rVa d) {r:VaV} (x:Dt h V d (vac r)):kdD d=r.1:=by
 obtain ⟨k,a,b,op,pl,nm,ns,ag,rfl,ta,tb,tp,tg⟩:=hd;obtain ⟨ra,rb,rp,s1,s2,hc,xa,xb,xp,y1,y2⟩:=qAc ta tb tp x;obtain rfl:=mK hc;rfl
theorem mAz {z:SmR} (hz:zSm z=true):z.m=false∧z.nm=[]∧z.has=false∧zTy z.ty=true∧zLf z.pl=true∧zVa z.va=true∧zOp z.co=true:=by
 unfold zSm at hz;simp only [Bool.and_eq_true] at hz;obtain ⟨_,_,h1,h2,h3,h4,h5,h6,h7⟩:=hz;exact ⟨by simpa using h1,kAn.1 h2,by simpa using h3,h4,h5,h6,h7⟩
theorem pAn {g:Nat} {k a:Int} {m hs:Bool} {nm:Bs} {ty pl va co:D} {th el:List D} {rr z z':SmR} {ok ok' ft fe:Bool} {HA H':Heap} {rt:TyV} {rp:LfV} {rv:VaV} {ro:OpV} {s1 s2:SL} (hrr:rr=⟨k,a,m,nm,rt,hs,rp,rv,ro,s1,s2⟩) (t1:rTy ty) (t2:rLf pl) (t3:rVa va) (t4:rOp co)
  (xt:Dt HA V ty (tyc rr.ty)) (xp:Dt HA V pl (lfc rr.pl)) (xv:Dt HA V va (vac rr.va)) (xc:Dt HA V co (opc rr.co)) (l1:s1.len=th.length) (l2:s2.len=el.length) (sw:SwR rr ty pl va co ok ft fe z)
  (ho:((rr.k=1∨rr.k=10)∧rr.has=true∧z' = { z with va:=va0,has:=false }∧(ok'=true→ok=true∧mayVa va))∨(¬ ((rr.k=1∨rr.k=10)∧rr.has=true)∧z'=z∧ok'=ok))
  (tl:TlR HA H' rr z' ok' ft fe (0<g∧∀ x∈th,lP g x) (0<g∧∀ x∈el,lP g x)):lP (g+1) (smT k a m nm ty hs pl va co th el):=by
 obtain ⟨cT,okT,zT,t0,e0,tt,te⟩:=tl;obtain ⟨zm,zn,zh,zt,zp,zv,zc⟩:=mAz zT;have nil:∀ {s:SL} {l:List D},s.len=l.length→s.len=0→l=[]:=fun h1 h2=>List.length_eq_zero_iff.1 (h1.symm.trans h2);have k0:rr.k=k:=by rw [hrr]
 have m0:rr.m=m:=by rw [hrr]
 have n0:rr.nm=nm:=by rw [hrr]
 have h0:rr.has=hs:=by rw [hrr]
 have th0:rr.th=s1:=by rw [hrr]
 have el0:rr.el=s2:=by rw [hrr]
 rw [th0] at t0;rw [el0] at e0;rw [k0,h0] at ho;have none:ft=false→fe=false→th=[]∧el=[]:=fun h1 h2=>⟨nil l1 (t0 h1),nil l2 (e0 h2)⟩;refine ⟨k,a,m,nm,ty,hs,pl,va,co,th,el,rfl,?_,?_,?_⟩
 ·intro x hx
  cases hf:ft with
  | true=>exact (tt hf).2 x hx
  | false=>rw [nil l1 (t0 hf)] at hx;cases hx
 ·intro x hx
  cases hf:fe with
  | true=>exact (te hf).2 x hx
  | false=>rw [nil l2 (e0 hf)] at hx;cases hx
 clear hrr
 cases sw with
 | let_ hk hok=>
  rw [k0] at hk;obtain ⟨rfl,rfl⟩:=none rfl rfl;rcases ho with ⟨_,p2,rfl,p4⟩ | ⟨p1,rfl,rfl⟩
  ·obtain ⟨q1,q2⟩:=p4 okT
   obtain ⟨q3,q4⟩:=hok q1;obtain rfl:=yF t2 xp zp;obtain rfl:=aG t4 xc zc;rw [n0] at q3;subst hk;exact .let_ q3 q4 (.inl ⟨p2,q2⟩)
  ·obtain ⟨q3,q4⟩:=hok okT
   obtain rfl:=yF t2 xp zp;obtain rfl:=aG t4 xc zc;obtain rfl:=cY t3 xv zv;rw [n0] at q3;subst hk
   have:hs=false:=by
    cases hs with
    | false=>rfl
    | true=>exact absurd ⟨.inl rfl,rfl⟩ p1
   exact .let_ q3 q4 (.inr ⟨this,rfl⟩)
 | set hk hok=>
  rw [k0] at hk;obtain ⟨rfl,rfl⟩:=none rfl rfl;rcases ho with ⟨p1,_⟩ | ⟨p1,rfl,rfl⟩
  ·omega
  ·obtain ⟨⟨pn,xs,rfl,q1,q2⟩,q4⟩:=hok okT
   obtain rfl:=kO t1 xt zt;obtain rfl:=aG t4 xc zc;obtain rfl:m=false:=m0.symm.trans zm;obtain rfl:nm=[]:=n0.symm.trans zn;obtain rfl:hs=false:=h0.symm.trans zh;subst hk;exact .set q1 q2 q4
 | call hk hok=>
  rw [k0] at hk;obtain ⟨rfl,rfl⟩:=none rfl rfl;rcases ho with ⟨p1,_⟩ | ⟨p1,rfl,rfl⟩
  ·omega
  ·obtain ⟨q1,q2⟩:=hok okT
   have q3:=(lAz t3 xv).trans q2;obtain rfl:=kO t1 xt zt;obtain rfl:=yF t2 xp zp;obtain rfl:=aG t4 xc zc;obtain rfl:m=false:=m0.symm.trans zm;obtain rfl:nm=[]:=n0.symm.trans zn;obtain rfl:hs=false:=h0.symm.trans zh;subst hk
   cases q1 with
   | op _=>exact absurd (show (1:Int)=6 from q3) (by decide)
   | @ref k' _ hk' _=>
    have:k'=6:=q3
    omega
   | no _=>exact absurd (show (4:Int)=6 from q3) (by decide)
   | bin _ _ _=>exact absurd (show (5:Int)=6 from q3) (by decide)
   | call hn hl=>exact .call hn hl
   | make _ _ _ _=>exact absurd (show (7:Int)=6 from q3) (by decide)
 | if_ hk hok=>
  rw [k0] at hk;rcases ho with ⟨p1,_⟩ | ⟨p1,rfl,rfl⟩
  ·omega
  ·have q1:=hok okT
   obtain rfl:=kO t1 xt zt;obtain rfl:=yF t2 xp zp;obtain rfl:=cY t3 xv zv;obtain rfl:m=false:=m0.symm.trans zm;obtain rfl:nm=[]:=n0.symm.trans zn;subst hk;exact .if_ (tt rfl).1 q1 fun h=>nil l2 (e0 (h0.trans h))
 | while_ hk hok=>
  rw [k0] at hk;rcases ho with ⟨p1,_⟩ | ⟨p1,rfl,rfl⟩
  ·omega
  ·have q1:=hok okT
   obtain rfl:=kO t1 xt zt;obtain rfl:=yF t2 xp zp;obtain rfl:=cY t3 xv zv;obtain rfl:m=false:=m0.symm.trans zm;obtain rfl:nm=[]:=n0.symm.trans zn;obtain rfl:hs=false:=h0.symm.trans zh;obtain rfl:=nil l2 (e0 rfl);subst hk;exact .while_ (tt rfl).1 q1
 | loop hk=>
  rw [k0] at hk;rcases ho with ⟨p1,_⟩ | ⟨p1,rfl,rfl⟩
  ·omega
  ·obtain rfl:=kO t1 xt zt
   obtain rfl:=yF t2 xp zp;obtain rfl:=cY t3 xv zv;obtain rfl:=aG t4 xc zc;obtain rfl:m=false:=m0.symm.trans zm;obtain rfl:nm=[]:=n0.symm.trans zn;obtain rfl:hs=false:=h0.symm.trans zh;obtain rfl:=nil l2 (e0 rfl);rcases hk with rfl | rfl
   ·exact .loop (tt rfl).1
   ·exact .block (tt rfl).1
 | break_ hk=>
  rw [k0] at hk;obtain ⟨rfl,rfl⟩:=none rfl rfl;rcases ho with ⟨p1,p2,rfl,p4⟩ | ⟨p1,rfl,rfl⟩
  ·obtain ⟨_,q2⟩:=p4 okT
   obtain rfl:k=10:=by omega
   obtain rfl:=kO t1 xt zt;obtain rfl:=yF t2 xp zp;obtain rfl:=aG t4 xc zc;obtain rfl:m=false:=m0.symm.trans zm;obtain rfl:nm=[]:=n0.symm.trans zn;exact .ret (.inl ⟨p2,q2⟩)
  ·obtain rfl:=kO t1 xt zt
   obtain rfl:=yF t2 xp zp;obtain rfl:=cY t3 xv zv;obtain rfl:=aG t4 xc zc;obtain rfl:m=false:=m0.symm.trans zm;obtain rfl:nm=[]:=n0.symm.trans zn;obtain rfl:hs=false:=h0.symm.trans zh;rcases hk with rfl | rfl | rfl
   ·exact .break_
   ·exact .cont
   ·exact .ret (.inr ⟨rfl,rfl⟩)
 | drop hk hok=>
  rw [k0] at hk;obtain ⟨rfl,rfl⟩:=none rfl rfl;rcases ho with ⟨p1,_⟩ | ⟨p1,rfl,rfl⟩
  ·omega
  ·have q1:=hok okT
   obtain rfl:=kO t1 xt zt;obtain rfl:=cY t3 xv zv;obtain rfl:=aG t4 xc zc;obtain rfl:m=false:=m0.symm.trans zm;obtain rfl:nm=[]:=n0.symm.trans zn;obtain rfl:hs=false:=h0.symm.trans zh;subst hk;exact .drop q1
end
end Qp
namespace Qp
section
variable {N:Nat} {h:Heap} {V:Nat→Prop}
theorem yAo {k a:Int} {m hs:Bool} {nm:Bs} {ty pl va co:D} {th el:List D}:wtD ty≤wtD (smT k a m nm ty hs pl va co th el)∧wtD va≤wtD (smT k a m nm ty hs pl va co th el)∧wtL th<wtD (smT k a m nm ty hs pl va co th el)∧wtL el<wtD (smT k a m nm ty hs pl va co th el)∧wtL th+wtL el<wtD (smT k a m nm ty hs pl va co th el):=by
 simp only [smT,wtD,wtL];omega
set_option maxHeartbeats 4000000 in
theorem tA9 (hN:100≤N) {g:Nat} {rec88:SL→Int→Heap→Option (Bool×Heap)} {v1:Int}
  (hrec:∀ (l:List D) (s:SL) (H:Heap),wtL l<N→wtL l≤2000000→(∀ x∈l,Wt Tryz.prog x 106)→Sl H V s l→∃ b H',rec88 s (bB .i64 (v1+1)) H=some (b,H')∧Chg [] H H'∧(b=true→0<g∧∀ x∈l,lP g x))
  {l:List D} (hw:wtL l<N) (hwl:wtL l≤2000000) (ht:∀ x∈l,Wt Tryz.prog x 106) {s:SL}:∀ (M i:Nat) (h:Heap),i≤l.length→l.length-i<M→Sl h V s l→(∀ j,(hj:j<l.length)→j<i→lP (g+1) l[j])→
  ∃ o b h',qA5 N rec88 M s v1 false (i:Int) h=some (o,(b,()),h')∧Chg [] h h'∧((o=.exit 0∧∀ x∈l,lP (g+1) x)∨(o=.ret∧b=false)):=by
 intro M
 induction M with
 | zero=>intro i h _ h;omega
 | succ M ih=>
  intro i h hi hM x hp;rw [lA9,aB5];have hv:s.len=l.length:=x.len;have hll:l.length≤wtL l:=pE l;simp only [vF,hv]
  by_cases q:i<l.length
  ·simp only [q,decide_true,cond_true]
   have hm:=List.getElem_mem q;have hwt:=ht _ hm;have hwd:=yQ hm;obtain ⟨r,g1,d⟩:=lAn.elt x q (vB4 hwt);have hix:∀ {β:Type} (K:Nat×Nat→Option β),ixK s.a l.length (i:Int) 32 K=K (s.at i 32):=fun K=>by rw [← hv];exact x.ix q 32 K
   rw [hix,g1,uG];obtain ⟨HA,pA,cA,oA⟩:=lAn.park (z:=smx (smv (gF 0))) rfl h r;have pA':∀ {β:Type} (K:Heap→Option β),tA ((h.push (.row yZA .own)).store (h.next,0) (yRA r)) K=K HA:=pA;rw [pA',lAn.cells oA];obtain ⟨k,a,m,nm,ty,hs,pl,va,co,th,el,hd,t1,t2,t3,t4,t5,t6,t7⟩:=vB4 hwt;obtain ⟨y,hy⟩:∃ y,y=l[i]:=⟨_,rfl⟩;have nxt:lP (g+1) l[i]→∀ (G:Heap),Chg [] h G→∃ o b h',qA5 N rec88 M s v1 false (bB .i64 ((i:Int)+1)) G=some (o,(b,()),h')∧Chg [] h h'∧((o=.exit 0∧∀ x∈l,lP (g+1) x)∨(o=.ret∧b=false)):=by
    intro hmay G cG;rw [eB (by omega)];obtain ⟨o,b,h',e,c',hh⟩:=ih (i+1) G q (by omega) (x.chg cG (by simp)) fun j hj hji=>by
     by_cases e:j=i
     ·subst e;exact hmay
     ·exact hp j hj (by omega)
    exact ⟨o,b,h',e,cG.trans c',hh⟩
   rw [← hy] at hd d nxt hwd hwt
   clear hy hm g1
   subst hd;obtain ⟨w1,w2,w3,w4,_⟩:=yAo (k:=k) (a:=a) (m:=m) (hs:=hs) (nm:=nm) (ty:=ty) (pl:=pl) (va:=va) (co:=co) (th:=th) (el:=el);obtain ⟨rt,rp,rv,ro,s1,s2,hc,x1,x2,x3,x4,x5,x6⟩:=pAj t1 t2 t3 t4 (Dt.chg cA (by simp) d);obtain ⟨rr,hrr⟩:∃ rr:SmR,rr=⟨k,a,m,nm,rt,hs,rp,rv,ro,s1,s2⟩:=⟨_,rfl⟩;rw [← hrr] at hc;have hr:r=smv rr:=lAn.inj hc;subst hr;have x1:Dt HA V ty (tyc rr.ty):=by rw [hrr];exact x1
   have x2:Dt HA V pl (lfc rr.pl):=by rw [hrr];exact x2
   have x3:Dt HA V va (vac rr.va):=by rw [hrr];exact x3
   have x4:Dt HA V co (opc rr.co):=by rw [hrr];exact x4
   have x5:Sl HA V rr.th th:=by rw [hrr];exact x5
   have x6:Sl HA V rr.el el:=by rw [hrr];exact x6
   have oA:HA.own h.next (smc rr):=oA;have oz:=vA HA (smc (gF 0));have cz:=uA HA (.row (smc (gF 0)) .own);have nz:(HA.push (.row (smc (gF 0)) .own)).next=HA.next+1:=rfl;have hst:(HA.push (.row (smc (gF 0)) .own)).store (HA.next,0) (smc rr)=some ((HA.push (.row (smc (gF 0)) .own)).put HA.next (.row (smc rr) .own)):=oz.store rfl;obtain ⟨H2,hH2⟩:∃ H2,H2=(HA.push (.row (smc (gF 0)) .own)).put HA.next (.row (smc rr) .own):=⟨_,rfl⟩;have w0:W1 HA H2 (smc rr):=by rw [hH2];exact ⟨fK oz _,cz.put (.inr (Nat.le_refl _)) _,Nat.le_refl _⟩
   rw [← hH2] at hst;have hz:∀ {β:Type} (K:Heap→Option β),tA ((HA.push (.row yZA .own)).store (HA.next,0) (yRA (smv rr))) K=K H2:=fun K=>by
    show tA ((HA.push (.row (smc (gF 0)) .own)).store (HA.next,0) (smc rr)) K=_;rw [hst,fA]
   rw [hz]
   clear hz hst hH2 cz nz oz
   obtain ⟨H3,p3,v3,c3,n3⟩:=w0.set (j:=0) (vs:=[(.int .i64 0)]) (show 0+1≤32 by decide) (ds:=smc { rr with k:=0 }) (by simp only [smc,smx,smv];rfl);obtain ⟨H4,p4,v4,c4,n4⟩:=v3.set (j:=1) (vs:=[(.int .i64 0)]) (show 1+1≤32 by decide) (ds:=smc { rr with k:=0,at_:=0 }) (by simp only [smc,smx,smv];rfl);obtain ⟨H5,p5,v5,c5,n5⟩:=v4.set (j:=30) (vs:=[(.slice none 0 0 0)]) (show 30+1≤32 by decide) (ds:=smc { rr with k:=0,at_:=0,th:=sl0 }) (by simp only [smc,smx,smv];rfl);obtain ⟨H6,p6,v6,c6,n6⟩:=v5.set (j:=31) (vs:=[(.slice none 0 0 0)]) (show 31+1≤32 by decide) (ds:=smc (z0R rr)) (by simp only [smc,smx,smv,z0R];rfl);simp only [Nat.zero_add,Nat.add_zero];rw [p3,p4,p5,p6];have hsz:s.len=l.length:=hv;rcases nAn (N:=N) hN t1 t5 (by omega) t2 t3 t4 (by omega) (by omega) oA v6 x1 x2 x3 x4 s v1 false (i:Int) with ⟨ok,ft,fe,z,H7,e7,w7,sw⟩ | ⟨H7,e7,c7⟩
   ·rw [e7]
    simp only [fA,iB];obtain ⟨ok',z',H8,e8,w8,ho⟩:=mAn (N:=N) hN t3 (by omega) (by omega) oA w7 x3 s v1 false (i:Int) ok ft fe;rw [e8,aA];have hzt:z'.th=sl0∧z'.el=sl0:=by
     have hz0:z.th=sl0∧z.el=sl0:=by cases sw <;> exact ⟨rfl,rfl⟩
     rcases ho with ⟨_,_,rfl,_⟩ | ⟨_,rfl,_⟩
     ·exact hz0
     ·exact hz0
    rcases oAn (N:=N) hN (rec88:=rec88) hzt.1 hzt.2 oA w8 s v1 false (i:Int) ok' ft fe (Pt:=0<g∧∀ x∈th,lP g x) (Pe:=0<g∧∀ x∈el,lP g x)
      (fun G cG=>hrec th rr.th G (by omega) (by omega) t6 (x5.chg cG (by simp))) (fun G cG=>hrec el rr.el G (by omega) (by omega) t7 (x6.chg cG (by simp))) with ⟨H9,e9,tr⟩ | ⟨H9,e9,c9⟩
    ·rw [e9]
     simp only [fA,iB];refine nxt (pAn hrr t1 t2 t3 t4 x1 x2 x3 x4 (by have:=x5.len;rw [hrr] at this;exact this) (by have:=x6.len;rw [hrr] at this;exact this) sw ho tr) H9 (cA.trans tr.c)
    ·rw [e9]
     simp only [fA,iB,jB];exact ⟨_,_,H9,rfl,cA.trans c9,.inr ⟨rfl,rfl⟩⟩
   ·rw [e7]
    simp only [fA,iB,jB];exact ⟨_,_,H7,rfl,cA.trans c7,.inr ⟨rfl,rfl⟩⟩
  ·simp only [q,decide_false,cond_false]
   refine ⟨_,_,h,rfl,Chg.refl _ _,.inl ⟨rfl,fun y hy=>?_⟩⟩;obtain ⟨j,hj,rfl⟩:=List.getElem_of_mem hy;exact hp j hj (by omega)
theorem nAs (hN:100≤N):∀ (g M:Nat) (l:List D) (s:SL) (h:Heap),g≤64→g<M→wtL l<N→wtL l≤2000000→(∀ x∈l,Wt Tryz.prog x 106)→Sl h V s l→∃ b h',f88 N M s ((65-g:Nat):Int) h=some (b,h')∧Chg [] h h'∧(b=true→0<g∧∀ x∈l,lP g x):=by
 intro g
 induction g with
 | zero=>
  intro M l s h hg hM hw hwl ht x;obtain ⟨M,rfl⟩:∃ m,M=m+1:=⟨M-1,by omega⟩;rw [mAc];unfold gAn;exact ⟨false,h,rfl,Chg.refl _ _,fun h=>by cases h⟩
 | succ g ih=>
  intro M l s h hg hM hw hwl ht x;obtain ⟨M,rfl⟩:∃ m,M=m+1:=⟨M-1,by omega⟩;rw [mAc];unfold gAn;have z:ltInt 64 ((65-(g+1):Nat):Int)=false:=by
   rw [show (64:Int)=((64:Nat):Int) from rfl,aC,decide_eq_false_iff_not];omega
  dsimp only;rw [z];simp only [cond_false];have hll:l.length≤wtL l:=pE l;obtain ⟨o,b,h',e,c,hh⟩:=tA9 (N:=N) hN (g:=g) (rec88:=f88 N M) (v1:=((65-(g+1):Nat):Int)) (V:=V) (fun l s H h1 h2 h3 h4=>by
   rw [eB (by omega),show 65-(g+1)+1=65-g by omega];exact ih M l s H (by omega) (by omega) h1 h2 h3 h4) hw hwl ht N 0 h (Nat.zero_le _) (by omega) x fun j _ h=>by omega
  rw [show ((0:Nat):Int)=0 from rfl] at e;rw [e,mB];rcases hh with ⟨rfl,hh⟩ | ⟨rfl,rfl⟩
  ·exact ⟨true,h',rfl,c,fun _=>⟨Nat.succ_pos _,hh⟩⟩
  ·exact ⟨false,h',rfl,c,fun h=>by cases h⟩
end
end Qp
namespace Qp
def unS:D→Bs
 | .s x=>x
 | _=>[]
def txS (l:List D):List Bs:=l.map unS
theorem lJ (xs:List Bs):txS (xs.map D.s)=xs:=by
 unfold txS;rw [List.map_map];show xs.map (fun x=>unS (D.s x))=xs;exact List.map_id xs
def tyX:Nat→D→Bs
 | g+1,.t [.i k,.s nm,.l lv,.l el]=>if k=1 then [105,110,116] else if k=2 then [98,111,111,108] else if k=3 then nm++eG (txS lv) else
   [38]++(match txS lv with | []=>[] | x::_=>[39]++x++[32])++(if k=5 then [109,117,116,32] else [])++(match el with | t::_=>tyX g t | []=>[])
 | _,_=>[]
theorem tAj:∀ {g:Nat} {p:PT},p.ok g→tyX g p.D=p.txt
 | 0,p,h=>by cases p <;> cases h
 | g+1,.int,_=>rfl
 | g+1,.bool,_=>rfl
 | g+1,.st nm lv,_=>by simp only [PT.D,tyD,tyX,lJ,PT.txt];rfl
 | g+1,.ref mu lv t,⟨_,_,h3⟩=>by
  have ih:=tAj h3;cases mu
  ·have e:tyX (g+1) (PT.ref false lv t).D=[38]++(match txS (lv.map D.s) with | []=>[] | x::_=>[39]++x++[32])++[]++tyX g t.D:=rfl
   rw [e,lJ,ih];rfl
  ·have e:tyX (g+1) (PT.ref true lv t).D=[38]++(match txS (lv.map D.s) with | []=>[] | x::_=>[39]++x++[32])++[109,117,116,32]++tyX g t.D:=rfl
   rw [e,lJ,ih];rfl
theorem pP {d:D} (h:gJ 64 d):(tyX 64 d).length≤6000:=by
 obtain ⟨p,rfl,hp⟩:=h;rw [tAj hp]
 have:=qA7 hp
 omega
def fdX:D→Bs
 | .t [.b m,.s nm,ty]=>(if m=true then [109,117,116,32] else [])++(nm++[58,32]++tyX 64 ty)
 | _=>[]
def dY (l:List D):Bs:=Qb.joinL (l.map fdX) [44,32]
def plX:D→Bs
 | .t [.s nm,.l pa]=>Qb.joinL (nm::txS pa) [46]
 | _=>[]
def opX:D→Bs
 | .t [.i k,.i n,pl]=>if k=1 then Lib.itoa n else if k=2 then (if n=1 then [116,114,117,101] else [102,97,108,115,101]) else plX pl
 | _=>[]
def uA9 (k:Int):Bs:=if k=1 then [32,43,32] else if k=2 then [32,45,32] else if k=3 then [32,60,32] else [32,61,61,32]
def dF:List Bs→List D→List Bs
 | n::ns,o::r=>(n++[58,32]++opX o)::dF ns r
 | [],o::r=>opX o::dF [] r
 | _,[]=>[]
def vaX:D→Bs
 | .t [.i k,a,b,.i op,pl,.s nm,.l ns,.l ag]=>
  if k=2 then [38]++plX pl else if k=3 then [38,109,117,116,32]++plX pl else if k=4 then [33]++opX a else if k=5 then opX a++uA9 op++opX b
  else if k=6 then nm++[40]++Qb.joinL (dF (txS ns) ag) [44,32]++[41]
  else if k=7 then nm++[32,123,32]++(if Qb.joinL (dF (txS ns) ag) [44,32]=[] then [] else Qb.joinL (dF (txS ns) ag) [44,32]++[32])++[125] else opX a
 | _=>[]
theorem tH {B:Nat}:∀ {l:List Bs} {sep:Bs},(∀ x∈l,x.length≤B)→(Qb.joinL l sep).length≤l.length * (B+sep.length)
 | [],sep,_=>by simp [Qb.joinL]
 | [x],sep,h=>by
  have:=h x (by simp)
  simp only [Qb.joinL,List.length_cons,List.length_nil];omega
 | x::y::r,sep,h=>by
  have h1:=h x (by simp);have h2:=tH (l:=y::r) (sep:=sep) fun z hz=>h z (List.mem_cons_of_mem _ hz);have e:Qb.joinL (x::y::r) sep=x++(sep++Qb.joinL (y::r) sep):=rfl;rw [e,List.length_append,List.length_append,List.length_cons,Nat.add_mul];omega
theorem eF {x:Bs} (h:yC x=true):x.length≤32:=by
 simp only [yC,Bool.and_eq_true] at h;exact (tD h.1).2
section
variable {N:Nat} {h:Heap} {V:Nat→Prop}
theorem eY:∀ (xs:List Bs),Qb.strsOf (xs.map AV.str)=some xs
 | []=>rfl
 | x::r=>by simp only [List.map_cons,Qb.strsOf,eY r]
theorem fY {s:SL} {xs:List Bs} {sep:Bs} (x:Sl h V s (xs.map D.s)) (hl:xs.length≤1000000) (hb:(Qb.joinL xs sep).length≤1000000000):f50 N s sep h=some (Qb.joinL xs sep,h):=by
 unfold f50 Qb.joinF;have hlen:=x.len;rw [List.length_map] at hlen
 cases xs with
 | nil=>
  have:s.len=0:=hlen
  rw [this];rfl
 | cons y r=>
  have hne:Nat.beq s.len 0=false:=by
   rw [hlen];rfl
  obtain ⟨vs,sv,dv⟩:=x.els;have hvs:=cA8 dv;have hz:s.sz=1:=by
   have h1:=dv.length;rw [List.map_cons] at dv;simp only [De,Dt] at dv;obtain ⟨a,b,_,h2,rfl,_⟩:=dv;exact h2.symm
  have hf:=Ai.lX (n:=1) sv (by rw [hvs,List.length_map,hlen,Nat.mul_one]);rw [hne,cond_false]
  cases ha:s.a with
  | none=>have:=sv.2.1 ha;rw [this] at hne;cases hne
  | some q=>
   obtain ⟨A,off⟩:=q;rw [ha] at hf;have hc:Nat.ble s.len s.cap=true:=by simpa using x.cap
   simp only [iC,Nat.mul_one] at hf;simp only [hc,cond_true,hf,hvs,eY];have hb2:(Nat.ble (y::r).length 140737488355328&&Nat.ble (Qb.joinL (y::r) sep).length 140737488355328)=true:=by
    rw [Bool.and_eq_true,Nat.ble_eq,Nat.ble_eq];exact ⟨by omega,by omega⟩
   rw [hb2,cond_true]
theorem add_eq {a b:Bs} (h:a.length+b.length≤1000000000) {β:Type} (K:Bs→Option β):dA (.val zH2) (nB .add a b) K=K (a++b):=by
 rw [tB (by omega)];rfl
theorem gY:∀ (x:Bs) (r:List Bs),[60,39]++Qb.joinL (x::r) [44,32,39]++[62]=eG (x::r)
 | x,r=>by
  have:∀ (x:Bs) (r:List Bs),Qb.joinL (x::r) [44,32,39]=x++qQ r:=by
   intro x r
   induction r generalizing x with
   | nil=>simp [Qb.joinL,qQ]
   | cons y r ih=>
    have e:Qb.joinL (x::y::r) [44,32,39]=x++([44,32,39]++Qb.joinL (y::r) [44,32,39]):=rfl;rw [e,ih];simp [qQ]
  rw [this];simp [eG]
theorem aAp {s:SL} {lv:List Bs} (x:Sl h V s (lv.map D.s)) (hl:lv.length≤64) (hv:∀ y∈lv,qE y=true):f41 N s h=some (eG lv,h):=by
 unfold f41;have hlen:=x.len;rw [List.length_map] at hlen
 cases lv with
 | nil=>
  have:s.len=0:=hlen
  have z:iA (Int.ofNat s.len) 0=true:=by rw [this];rfl
  simp only [z,cond_true];rfl
 | cons y r=>
  have z:iA (Int.ofNat s.len) 0=false:=by rw [hlen];rfl
  have hb:(Qb.joinL (y::r) [44,32,39]).length≤64 * 35:=Nat.le_trans (tH (B:=32) fun w hw=>(tD (hv w hw)).2) (Nat.mul_le_mul hl (by decide));simp only [z,cond_false];rw [fY x (by omega) (by omega),aA,add_eq (by simp;omega),add_eq (by simp;omega),gY]
end
end Qp
namespace Qp
section
variable {N:Nat} {h:Heap} {V:Nat→Prop}
theorem nAz (hN:100≤N):∀ (g M:Nat) (h:Heap) (r:TyV) (p:PT) (V:Nat→Prop),g≤M→g≤64→p.ok g→Dt h V p.D (tyc r)→∃ h',f36 N M r h=some (p.txt,h')∧Chg [] h h':=by
 intro g
 induction g with
 | zero=>intro M h r p V _ _ hp;cases p <;> cases hp
 | succ g ih=>
  intro M h r p V hM hg hp hd;obtain ⟨M,rfl⟩:∃ m,M=m+1:=⟨M-1,by omega⟩;rw [cAn];unfold yAr;obtain ⟨k,nm,lv,el,hpD⟩:∃ k nm lv el,p.D=tyD k nm lv el:=by cases p <;> exact ⟨_,_,_,_,rfl⟩
  rw [hpD] at hd;obtain ⟨s1,s2,hc,l1,t1⟩:=jG.1 hd;have er:=uAh hc;subst er;have o1:=vA h (tyc (k,nm,s1,s2,()));have c1:=uA h (.row (tyc (k,nm,s1,s2,())) .own);have g1:h.push (.row [(.int .i64 (k,nm,s1,s2,()).1),(.str (k,nm,s1,s2,()).2.1),(.slice (k,nm,s1,s2,()).2.2.1.a (k,nm,s1,s2,()).2.2.1.len (k,nm,s1,s2,()).2.2.1.cap (k,nm,s1,s2,()).2.2.1.sz),(.slice (k,nm,s1,s2,()).2.2.2.1.a (k,nm,s1,s2,()).2.2.2.1.len (k,nm,s1,s2,()).2.2.2.1.cap (k,nm,s1,s2,()).2.2.2.1.sz)] .own)=h.push (.row (tyc (k,nm,s1,s2,())) .own):=rfl;rw [g1];generalize h.push (.row (tyc (k,nm,s1,s2,())) .own)=h1 at *;dsimp only;have a0:h1.cell (h.next,0)=some (.int .i64 k):=o1.cell 0;have a1:h1.cell (h.next,1)=some (.str nm):=o1.cell 1;have a2:h1.cell (h.next,2)=some (SL.av s1):=o1.cell 2;have a3:h1.cell (h.next,3)=some (SL.av s2):=o1.cell 3;simp only [SL.av] at a2 a3;have l1':=l1.chg c1 (by simp);have t1':=t1.chg c1 (by simp);have hl1:s1.len=lv.length:=by rw [l1.len,List.length_map]
  simp only [Nat.add_zero,Nat.zero_add,a0,bA,fB]
  cases p with
  | int=>
   simp only [PT.D,tyD,D.t.injEq,List.cons.injEq,D.i.injEq] at hpD;rw [← hpD.1];exact ⟨_,rfl,c1⟩
  | bool=>
   simp only [PT.D,tyD,D.t.injEq,List.cons.injEq,D.i.injEq] at hpD;rw [← hpD.1];exact ⟨_,rfl,c1⟩
  | st nm' lv'=>
   have hk:k=3∧nm=nm'∧lv=lv':=by
    simp only [PT.D,tyD,D.t.injEq,List.cons.injEq,D.i.injEq,D.s.injEq,D.l.injEq,and_true] at hpD;obtain ⟨e1,e2,e3,_⟩:=hpD;exact ⟨e1.symm,e2.symm,(List.map_inj_right (fun a b h=>by simpa using h)).1 e3.symm⟩
   obtain ⟨rfl,rfl,rfl⟩:=hk;obtain ⟨p1,p2,p3⟩:=hp;rw [show iA 3 1=false from rfl,show iA 3 2=false from rfl,show iA 3 3=true from rfl];simp only [cond_false,cond_true,a1,a2,bA,qA,jA];have f58':f41 N ⟨s1.a,s1.len,s1.cap,s1.sz⟩ h1=some (eG lv,h1):=aAp (N:=N) l1' p2 p3;rw [f58',aA,tB (by have:=fH p1;have:=kX p2 p3;omega)];simp only [bA,qA,a1,a2,eC,cond_true,jC];exact ⟨_,rfl,c1⟩
  | ref mu lv' t=>
   have hk:k=(if mu=true then 5 else 4)∧lv=lv'∧el=[t.D]:=by
    simp only [PT.D,tyD,D.t.injEq,List.cons.injEq,D.i.injEq,D.s.injEq,D.l.injEq,and_true] at hpD;obtain ⟨e1,e2,e3,e4⟩:=hpD;exact ⟨e1.symm,(List.map_inj_right (fun a b h=>by simpa using h)).1 e3.symm,e4.symm⟩
   obtain ⟨hk,rfl,rfl⟩:=hk;obtain ⟨p1,p2,p3⟩:=hp;have ht:=qA7 p3;have kk:(k=4∧mu=false)∨(k=5∧mu=true):=by cases mu <;> simp at hk <;> simp [hk]
   have z1:iA k 1=false:=by rcases kk with ⟨rfl,_⟩ | ⟨rfl,_⟩ <;> rfl
   have z2:iA k 2=false:=by rcases kk with ⟨rfl,_⟩ | ⟨rfl,_⟩ <;> rfl
   have z3:iA k 3=false:=by rcases kk with ⟨rfl,_⟩ | ⟨rfl,_⟩ <;> rfl
   have z5:iA k 5=mu:=by rcases kk with ⟨rfl,rfl⟩ | ⟨rfl,rfl⟩ <;> rfl
   simp only [z1,z2,z3,cond_false];have base:(kA (α:=zR1) (bif iA k 4 then some (((some (h.next,0)),[38],iA k 4,()),h1) else some (((some (h.next,0)),[38],iA k 5,()),h1))=kA (α:=zR1) (β:=Bs×Heap) (some (((some (h.next,0)),[38],true,()),h1))):=by
    rcases kk with ⟨rfl,rfl⟩ | ⟨rfl,rfl⟩ <;> rfl
   rw [base];have ze:iA (Int.ofNat s2.len) 0=false:=by rw [t1.len];rfl
   simp only [aA,cond_true,fA,a2,a3,bA,jA,ze,cond_false]
   -- the element
   have hty:∃ k nm lv el,t.D=tyD k nm lv el:=by cases t <;> exact ⟨_,_,_,_,rfl⟩
   have ecell:∃ r':TyV,h1.cells (s2.at 0 4) 4=some (.agg (tyc r'))∧Dt h1 V t.D (tyc r'):=by
    obtain ⟨cs,ee⟩:=t1'.elt (i:=0) (by simp);obtain ⟨k',nm',lv',el',hk'⟩:=hty;have hde:=ee.dt;simp only [List.getElem_cons_zero] at hde;rw [hk'] at hde;obtain ⟨u1,u2,hcs,_⟩:=jG.1 hde;have hz:s2.sz=4:=by rw [← ee.len,hcs];rfl
    have hwh:=ee.whole;rw [hz,hcs] at hwh;refine ⟨_,hwh,?_⟩;rw [← hcs,hk'];exact hde
   obtain ⟨r',er',dr'⟩:=ecell;have hix:∀ {β:Type} (K:Nat×Nat→Option β),ixK s2.a s2.len 0 4 K=K (s2.at 0 4):=fun K=>t1'.ix (i:=0) (by simp) 4 K;obtain ⟨h',e',c'⟩:=ih M h1 r' t V (by omega) (by omega) p3 dr'
   -- what stands ahead of it
   have ahead:(kA (α:=zH1) (β:=Bs×Heap) (bif ltInt 0 (Int.ofNat s1.len) then
     (dA (.val zH2) (nB .add [38] [39]) fun (x21:zL2)=>
     (ixK s1.a s1.len 0 1 fun q24=>
     (dA (.val zH2) (h1.cell q24) fun (x25:zL2)=>
     (dA (.val zH2) (nB .add x21 x25) fun (x26:zL2)=>
     (dA (.val zH2) (nB .add x26 [32]) fun (x27:zL2)=>
     some ((some (h.next,0),x27,()),h1))))))
    else
     some ((some (h.next,0),[38],()),h1))=kA (α:=zH1) (some ((some (h.next,0),[38]++(match lv with | []=>[] | x::_=>[39]++x++[32]),()),h1))):=by
    cases lv with
    | nil=>
     have:ltInt 0 (Int.ofNat s1.len)=false:=by rw [hl1];rfl
     rw [this];rfl
    | cons x rr=>
     have:ltInt 0 (Int.ofNat s1.len)=true:=by rw [hl1,ltI,decide_eq_true_eq];show (0:Int)<((rr.length+1:Nat):Int);omega
     rw [this];have hx:=tD (p2 x (by simp));have hix1:∀ {β:Type} (K:Nat×Nat→Option β),ixK s1.a s1.len 0 1 K=K (s1.at 0 1):=fun K=>l1'.ix (i:=0) (by simp) 1 K;have hcl:=gK l1' (i:=0) (by simp);simp only [List.getElem_cons_zero] at hcl;simp only [cond_true];rw [tB (by simp)];simp only [bA,qA];rw [hix1,hcl];simp only [bA,qA];rw [tB (by simp only [List.length_append,List.length_cons,List.length_nil];omega)];simp only [bA,qA];rw [tB (by simp only [List.length_append,List.length_cons,List.length_nil];omega)];simp only [bA,qA];rw [← List.append_assoc,← List.append_assoc]
   rw [ahead];have hal:([38]++(match lv with | []=>[] | x::_=>[39]++x++[32]):Bs).length≤40:=by
    cases lv with
    | nil=>simp
    | cons x rr=>have hx:=tD (p2 x (by simp));simp only [List.length_append,List.length_cons,List.length_nil];omega
   generalize ha:([38]++(match lv with | []=>[] | x::_=>[39]++x++[32]):Bs)=pre at *;simp only [aA,fA,a0,bA,fB,z5];have etxt:(PT.ref mu lv t).txt=pre++(if mu=true then [109,117,116,32] else [])++t.txt:=by rw [← ha];rfl
   rw [etxt]
   cases mu with
   | false=>
    simp only [cond_false,aA,fA,a3,bA,jA,Bool.false_eq_true,if_false,List.append_nil];rw [hix,er',yR];show ∃ h',(kA (f36 N M r' h1) _)=_∧_;rw [e',aA,tB (by omega)];simp only [bA,qA];exact ⟨_,rfl,c1.trans c'⟩
   | true=>
    simp only [cond_true,if_true];rw [tB (by simp only [List.length_cons,List.length_nil];omega)];simp only [bA,qA,aA,fA,a3,jA];rw [hix,er',yR];show ∃ h',(kA (f36 N M r' h1) _)=_∧_;rw [e',aA,tB (by simp only [List.length_append,List.length_cons,List.length_nil];omega)];simp only [bA,qA];exact ⟨_,rfl,c1.trans c'⟩
theorem qP {h0 h H:Heap} {out:SL} {ys:List Bs} {i:Nat} (hi:i<ys.length) (ho:OwV (Fr0 h0) h out 1 ((ys.map D.s).take i)) (c0:Chg [] h0 h) (cH:Chg [] h H) (hl:ys.length≤100000) {y:Bs} (hy:y=ys[i]) :
  ∃ s' h',(∀ {β:Type} (K:SL→Heap→Option β),cI (.val zG2) (uC E 38 38 (.slice out.a out.len out.cap out.sz) (.slice (some (H.next,0)) 1 1 1) (H.push (.row [.str y] .own))) K=K s' h')∧OwV (Fr0 h0) h' s' 1 ((ys.map D.s).take (i+1))∧Chg [] h0 h':=by
 subst hy;exact gAw tAv (by decide) (xs:=ys.map D.s) (by rw [List.length_map];exact hi) ho c0 cH (cs:=[.str ys[i]]) (by rw [List.getElem_map];simp only [Dt]) rfl (by omega)
theorem cA2 {h':Heap} {d:D} (h:gJ 64 d) {r:TyV} (hN:100≤N) (x:Dt h' V d (tyc r)):∃ h2,f36 N N r h'=some (tyX 64 d,h2)∧Chg [] h' h2:=by
 obtain ⟨p,rfl,hp⟩:=h;rw [tAj hp];exact nAz hN 64 N h' r p V (by omega) (Nat.le_refl _) hp x
theorem uAj {mu:Bool} {d:D} (h:oJ mu d):(fdX d).length≤6040:=by
 obtain ⟨m,nm,ty,rfl,_,hn,ht⟩:=h;have h1:=eF hn;have h2:=pP ht;have e:fdX (fdD m nm ty)=(if m=true then [109,117,116,32] else [])++(nm++[58,32]++tyX 64 ty):=rfl;rw [e];cases m <;> simp <;> omega
theorem eS {mu:Bool} {l:List D} (h:jP 64 (oJ mu) l):(dY l).length≤400000:=by
 have:=tH (B:=6040) (l:=l.map fdX) (sep:=[44,32]) fun x hx=>by obtain ⟨d,hd,rfl⟩:=List.mem_map.1 hx;exact uAj (h.2 d hd)
 have h1:=h.1;rw [List.length_map] at this;unfold dY;refine Nat.le_trans this (Nat.le_trans (Nat.mul_le_mul h1 (Nat.le_refl _)) (by decide))
theorem vA9 (hN:100≤N) {h0:Heap} {mu:Bool} {l:List D} (hl:jP 64 (oJ mu) l) {s:SL} (x:Sl h0 V s l):∀ (M i:Nat) (out:SL) (h:Heap),i≤l.length→l.length-i<M→OwV (Fr0 h0) h out 1 (((l.map fdX).map D.s).take i)→Chg [] h0 h→∃ out' h',tQ N M out s (l.length:Int) (i:Int) h=some (.exit 0,(out',()),h')∧OwV (Fr0 h0) h' out' 1 ((l.map fdX).map D.s)∧Chg [] h0 h':=by
 have hlen:((l.map fdX).map D.s).length=l.length:=by simp
 have key:=dA8 (h0:=h0) (n:=1) (k:=0) (xs:=(l.map fdX).map D.s) (L:=fun M out i h=>tQ N M out s (l.length:Int) i h) (fin:=fun out=>(out,())) ?_ ?_
 ·intro M i out h hi hM ho hc
  exact key M i out h (by omega) (by omega) ho hc
 ·intro M i hi out h ho hc
  rw [hlen] at hi;show ∃ out' h',tQ N (M+1) out s (l.length:Int) (i:Int) h=tQ N M out' s (l.length:Int) ((i+1:Nat):Int) h'∧_;rw [bV];unfold bS;simp only [aC,hi,decide_true,cond_true];have hm:=hl.2 _ (List.getElem_mem hi);have x:=x.chg hc (by simp);obtain ⟨r,g,d⟩:=nAe.elt x hi (aS hm);rw [x.ix hi 6,g,qB2];obtain ⟨h5,p5,c5,o5⟩:=nAe.park (z:=fdc fd0) rfl h r;have p5':∀ {β:Type} (K:Heap→Option β),tA ((h.push (.row [(.bool false),(.str []),(.int .i64 0),(.str []),(.slice none 0 0 0),(.slice none 0 0 0)] .own)).store (h.next,0) [(.bool r.1),(.str r.2.1),(.int .i64 r.2.2.1),(.str r.2.2.2.1),(.slice r.2.2.2.2.1.a r.2.2.2.2.1.len r.2.2.2.2.1.cap r.2.2.2.2.1.sz),(.slice r.2.2.2.2.2.1.a r.2.2.2.2.2.1.len r.2.2.2.2.2.1.cap r.2.2.2.2.2.1.sz)]) K=K h5:=p5;rw [p5'];have d5:=Dt.chg c5 (by simp) d;have hfl:=uAj hm;have hfx:fdX l[i]=(l.map fdX)[i]'(by simpa using hi):=by rw [List.getElem_map]
  obtain ⟨m,nm,ty,hd,hmu,hn,ht⟩:=hm;rw [hd] at d5 hfl hfx;obtain ⟨q1,hc1,y1⟩:=eAi (iO ht) d5;obtain rfl:=nAe.inj hc1;have a0:h5.cell (h.next,0)=some (.bool m):=o5.cell 0;have a1:h5.cell (h.next,1)=some (.str nm):=o5.cell 1;have aa:h5.cells (h.next,2) 4=some (.agg (tyc q1)):=o5.cells (j:=2) (m:=4) (Nat.le_refl _);have h1:=eF hn;have h2:=pP ht;obtain ⟨h6,e6,c6⟩:=cA2 ht hN y1;have o6:=o5.chg c6 (by simp);have b0:h6.cell (h.next,0)=some (.bool m):=o6.cell 0;have b1:h6.cell (h.next,1)=some (.str nm):=o6.cell 1;have c06:=c5.trans c6;simp only [Nat.add_zero,Nat.zero_add,a1,bA,qA];rw [tB (by simp;omega)];simp only [bA,qA];rw [aa,yR];show ∃ out' h',(kA (f36 N N q1 h5) _)=_∧_;rw [e6,aA,tB (by simp;omega)];have sm:rB (some (.agg (tyc q1))) (.agg [(.int .i64 q1.1),(.str q1.2.1),(.slice q1.2.2.1.a q1.2.2.1.len q1.2.2.1.cap q1.2.2.1.sz),(.slice q1.2.2.2.1.a q1.2.2.2.1.len q1.2.2.2.1.cap q1.2.2.2.1.sz)])=true:=jL _;simp only [bA,qA,sm,b1,a1,eC,cond_true,jC,b0,kB];have hfe:fdX (fdD m nm ty)=(if m=true then [109,117,116,32] else [])++(nm++[58,32]++tyX 64 ty):=rfl;have ih':i<(l.map fdX).length:=by simpa using hi
  cases m with
  | true=>
   simp only [cond_true];rw [tB (by simp;omega)];simp only [bA,qA];obtain ⟨s',h',e',o',c'⟩:=qP ih' ho hc c06 (by rw [List.length_map];have:=hl.1;omega) (y:=[109,117,116,32]++(nm++[58,32]++tyX 64 ty)) (by rw [← hfx,hfe];rfl);rw [e',eB (by have:=hl.1;omega)];exact ⟨s',h',rfl,o',c'⟩
  | false=>
   simp only [cond_false];obtain ⟨s',h',e',o',c'⟩:=qP ih' ho hc c06 (by rw [List.length_map];have:=hl.1;omega) (y:=nm++[58,32]++tyX 64 ty) (by rw [← hfx,hfe];rfl);rw [e',eB (by have:=hl.1;omega)];exact ⟨s',h',rfl,o',c'⟩
 ·intro M out h
  rw [hlen];show tQ N (M+1) out s (l.length:Int) (l.length:Int) h=_;rw [bV];unfold bS;simp only [aC,Nat.lt_irrefl,decide_false,cond_false]
theorem bAp (hN:200≤N) {mu:Bool} {l:List D} (hl:jP 64 (oJ mu) l) {s:SL} (x:Sl h V s l):∃ h',f38 N s h=some (dY l,h')∧Chg [] h h':=by
 unfold f38;obtain ⟨out,h',e,o,c⟩:=vA9 (N:=N) (by omega) hl x N 0 ⟨none,0,0,0⟩ h (Nat.zero_le _) (by have:=hl.1;omega) (OwV.nil _ _ _ _) (Chg.refl _ _);have e0:Int.ofNat s.len=((l.length:Nat):Int):=by rw [x.len];rfl
 have e1:((0:Nat):Int)=0:=rfl;rw [e1] at e;rw [e0,e,mB];dsimp only;rw [fY o.sl (by rw [List.length_map];have:=hl.1;omega) (Nat.le_trans (eS hl) (by decide)),aA];exact ⟨h',rfl,c⟩
end
end Qp
namespace Qp
section
variable {N:Nat} {h:Heap} {V:Nat→Prop}
theorem vAj {s:SL} {xs:List Bs} (o:OwC h s 1 (xs.map AV.str)):Sl h (fun _=>True) s (xs.map D.s):=by
 have hl:=o.len;rw [List.length_map,Nat.mul_one] at hl;refine ⟨by rw [List.length_map];omega,o.cap,fun _ _=>trivial,_,o.sees,?_⟩
 by_cases hz:xs=[]
 ·subst hz;simp [De]
 ·have hp:0<xs.length:=List.length_pos_iff.2 hz
  have:s.sz=1:=by
   rcases o with ⟨_,h2,_⟩ | ⟨A,cs,st,_,h2,_⟩
   ·omega
   ·exact h2
  rw [this];exact mX _ _ _
theorem uM {d:D} (h:qL d):(plX d).length≤3000:=by
 obtain ⟨nm,xs,rfl,hn,h1,h2⟩:=h;have e:plX (gE nm (xs.map D.s))=Qb.joinL (nm::xs) [46]:=by
  show Qb.joinL (nm::txS (xs.map D.s)) [46]=_;rw [lJ]
 rw [e]
 have:=tH (B:=32) (l:=nm::xs) (sep:=[46]) fun x hx=>by
  rcases List.mem_cons.1 hx with rfl | hx
  ·exact eF hn
  ·rcases h2 x hx with rfl | h3
   ·decide
   ·exact eF h3
 simp only [List.length_cons,List.length_nil] at this;omega
theorem kV {d:D} (hd:qL d) {r:LfV} (x:Dt h V d (lfc r)):∃ h',f130 N (r.1,r.2.1,()) h=some (plX d,h')∧Chg [] h h':=by
 have hlen:=uM hd;obtain ⟨nm,xs,rfl,hn,hx1,hx2⟩:=hd;obtain ⟨s,hc,y⟩:=oI x;obtain rfl:=iR.inj (r':=(nm,s,())) hc;have e:plX (gE nm (xs.map D.s))=Qb.joinL (nm::xs) [46]:=by
  show Qb.joinL (nm::txS (xs.map D.s)) [46]=_;rw [lJ]
 rw [e] at hlen ⊢;unfold f130;have o1:=vA h (lfc (nm,s,()));have c1:=uA h (.row (lfc (nm,s,())) .own);have e1:h.push (.row [(.str (nm,s,()).1),(.slice (nm,s,()).2.1.a (nm,s,()).2.1.len (nm,s,()).2.1.cap (nm,s,()).2.1.sz)] .own)=h.push (.row (lfc (nm,s,())) .own):=rfl;dsimp only at e1 ⊢;rw [e1];have y:=y.chg c1 (by simp);generalize h.push (.row (lfc (nm,s,())) .own)=h1 at *;have a0:h1.cell (h.next,0)=some (.str nm):=o1.cell 0;simp only [Nat.add_zero,Nat.zero_add,a0,bA,qA];have o3:=vA h1 [.str nm];have c3:=uA h1 (.row [.str nm] .own);have y:=y.chg c3 (by simp);generalize h1.push (.row [.str nm] .own)=h3 at *;have o13:=o1.chg c3 (by simp);have a1:h3.cell (h.next,1)=some (.slice s.a s.len s.cap s.sz):=o13.cell 1;simp only [a1,bA,jA];obtain ⟨ws,hs,he⟩:=y.els;have hws:=cA8 he;have hsl:=y.len;rw [List.length_map] at hsl;have ow:OwC h3 ⟨some (h1.next,0),1,1,1⟩ 1 [.str nm]:=.inr ⟨h1.next,[.str nm],.own,rfl,rfl,o3.2,o3.1,rfl,rfl,Nat.le_refl _,.inr ⟨rfl,rfl⟩⟩;obtain ⟨v,h',ea,o,vl,c,hb⟩:=oAm (E:=E) tAv hs (by rw [hws,List.length_map];omega) (by rw [hws];intro w hw;obtain ⟨y,_,rfl⟩:=List.mem_map.1 hw;rfl) ow (by show (1+s.len) * 100≤_;omega);have ea':uC E 38 38 (.slice (some (h1.next,0)) 1 1 1) (.slice s.a s.len s.cap s.sz) h3=some (.slice v.a v.len v.cap v.sz,h'):=ea;rw [ea'];simp only [fP,jA];have ho:OwC h' v 1 ((nm::xs).map AV.str):=by
  rw [hws] at o;exact o
 have c':Chg [h1.next] h3 h':=c;have cc:Chg [] h h':=(c1.trans c3).step c' (fun A hA hl=>by simp at hA;have:=c1.next;omega);have f:=fY (N:=N) (sep:=[46]) (vAj ho) (by simp;omega) (by omega);have f':f50 N ⟨v.a,v.len,v.cap,v.sz⟩ [46] h'=some (Qb.joinL (nm::xs) [46],h'):=f;rw [f',aA];exact ⟨h',rfl,cc⟩
theorem PK.itoa (pk:PK h) {i:Int} (h0:-9223372036854775808≤i) (h1:i≤9223372036854775807):f204 N i h=some (Lib.itoa i,h):=by
 unfold f204 Qb.itoaF;rw [if_pos ⟨pk.2.2.1,pk.2.2.2,h0,h1⟩]
theorem iH {d:D} (h:oD d):(opX d).length≤3000:=by
 rcases h with ⟨n,rfl,hn⟩ | ⟨n,hn,rfl⟩ | ⟨p,rfl,hp⟩
 ·have:=Lib.itoa_length_le (n:Int) (by omega) (by omega)
  show (Lib.itoa (n:Int)).length≤_;omega
 ·rcases hn with rfl | rfl <;> decide
 ·exact uM hp
theorem vM {d:D} (hd:oD d) (pk:PK h) {r:OpV} (x:Dt h V d (opc r)):∃ h',f177 N r h=some (opX d,h')∧Chg [] h h':=by
 unfold f177;have hi:=tC hd;have o1:=vA h (opc r);have c1:=uA h (.row (opc r) .own);have e1:h.push (.row [(.int .i64 r.1),(.int .i64 r.2.1),(.str r.2.2.1),(.slice r.2.2.2.1.a r.2.2.2.1.len r.2.2.2.1.cap r.2.2.2.1.sz)] .own)=h.push (.row (opc r) .own):=rfl;dsimp only;rw [e1];have x:=Dt.chg c1 (by simp) x;have pk:=pk.chg c1;generalize h.push (.row (opc r) .own)=h1 at *;rcases hd with ⟨n,rfl,hn⟩ | ⟨n,hn,rfl⟩ | ⟨p,rfl,hp⟩
 ·obtain ⟨q,hc,_⟩:=jU ⟨[],[],rfl,by simp⟩ x
  obtain rfl:=jR.inj hc;have a0:h1.cell (h.next,0)=some (.int .i64 1):=o1.cell 0;have a1:h1.cell (h.next,1)=some (.int .i64 (n:Int)):=o1.cell 1;simp only [Nat.add_zero,Nat.zero_add,a0,a1,bA,fB,show iA 1 1=true from rfl,cond_true];rw [pk.itoa (by omega) (by omega),aA];exact ⟨h1,rfl,c1⟩
 ·obtain ⟨q,hc,_⟩:=jU ⟨[],[],rfl,by simp⟩ x
  obtain rfl:=jR.inj hc;have a0:h1.cell (h.next,0)=some (.int .i64 2):=o1.cell 0;have a1:h1.cell (h.next,1)=some (.int .i64 n):=o1.cell 1;simp only [Nat.add_zero,Nat.zero_add,a0,a1,bA,fB,show iA 2 1=false from rfl,show iA 2 2=true from rfl,cond_true,cond_false];unfold f205 f218;rcases hn with rfl | rfl
  ·exact ⟨h1,rfl,c1⟩
  ·exact ⟨h1,rfl,c1⟩
 ·obtain ⟨nm,xs,hpl,h2,h3,h4⟩:=hp
  have hp:qL p:=⟨nm,xs,hpl,h2,h3,h4⟩;obtain ⟨q,hc,y⟩:=jU (rH hp) x;obtain rfl:=jR.inj hc;have a0:h1.cell (h.next,0)=some (.int .i64 3):=o1.cell 0;have aa:h1.cells (h.next,2) 2=some (.agg (lfc q)):=o1.cells (j:=2) (m:=2) (Nat.le_refl _);simp only [Nat.add_zero,Nat.zero_add,a0,bA,fB,show iA 3 1=false from rfl,show iA 3 2=false from rfl,cond_false];obtain ⟨h',e,c⟩:=kV (N:=N) hp y;rw [aa,pM,e,aA];exact ⟨h',rfl,c1.trans c⟩
end
end Qp
namespace Qp
theorem jD:∀ (ns:List Bs) (ag:List D),(dF ns ag).length=ag.length
 | _::ns,_::r=>by simp [dF,jD ns r]
 | [],_::r=>by simp [dF,jD [] r]
 | _::_,[]=>rfl
 | [],[]=>rfl
theorem lO:∀ (ns:List Bs) (ag:List D) (i:Nat) (hi:i<(dF ns ag).length) (hj:i<ag.length),(dF ns ag)[i]=if h:i<ns.length then ns[i]++[58,32]++opX ag[i] else opX ag[i]
 | n::ns,o::r,0,_,_=>by simp [dF]
 | [],o::r,0,_,_=>by simp [dF]
 | n::ns,o::r,i+1,hi,hj=>by
  simp only [dF,List.getElem_cons_succ,List.length_cons,Nat.add_lt_add_iff_right];exact lO ns r i _ _
 | [],o::r,i+1,hi,hj=>by
  simp only [dF,List.getElem_cons_succ,List.length_nil,Nat.not_lt_zero,dite_false]
  have:=lO [] r i (by simpa [dF] using hi) (by simpa using hj)
  simpa using this
 | _::_,[],_,_,hj=>by simp at hj
 | [],[],_,_,hj=>by simp at hj
theorem wAj {ns:List Bs} {ag:List D} (hn:∀ x∈ns,yC x=true) (ha:jP 64 oD ag):∀ x∈dF ns ag,x.length≤3100:=by
 intro x hx;obtain ⟨i,hi,rfl⟩:=List.mem_iff_getElem.1 hx;have hj:i<ag.length:=by rw [← jD ns ag];exact hi
 rw [lO ns ag i hi hj];have h1:=iH (ha.2 _ (List.getElem_mem hj))
 split
 ·rename_i h
  have h2:=eF (hn _ (List.getElem_mem h));simp;omega
 ·omega
theorem lV {ns:List Bs} {ag:List D} (hn:∀ x∈ns,yC x=true) (ha:jP 64 oD ag):(Qb.joinL (dF ns ag) [44,32]).length≤200000:=by
 have:=tH (sep:=[44,32]) (wAj hn ha)
 rw [jD] at this;exact Nat.le_trans this (Nat.le_trans (Nat.mul_le_mul ha.1 (Nat.le_refl _)) (by decide))
theorem wA9 (k:Int) (a b:D) (op:Int) (pl:D) (nm:Bs) (ns:List Bs) (ag:List D):vaX (vaD k a b op pl nm (ns.map D.s) ag)=if k=2 then [38]++plX pl else if k=3 then [38,109,117,116,32]++plX pl else if k=4 then [33]++opX a else if k=5 then opX a++uA9 op++opX b
  else if k=6 then nm++[40]++Qb.joinL (dF ns ag) [44,32]++[41]
  else if k=7 then nm++[32,123,32]++(if Qb.joinL (dF ns ag) [44,32]=[] then [] else Qb.joinL (dF ns ag) [44,32]++[32])++[125] else opX a:=by
 show (if k=2 then [38]++plX pl else if k=3 then [38,109,117,116,32]++plX pl else if k=4 then [33]++opX a else if k=5 then opX a++uA9 op++opX b
  else if k=6 then nm++[40]++Qb.joinL (dF (txS (ns.map D.s)) ag) [44,32]++[41]
  else if k=7 then nm++[32,123,32]++(if Qb.joinL (dF (txS (ns.map D.s)) ag) [44,32]=[] then [] else Qb.joinL (dF (txS (ns.map D.s)) ag) [44,32]++[32])++[125] else opX a)=_
 rw [lJ]
section
variable {N:Nat} {h:Heap} {V:Nat→Prop}
theorem qAn {h0:Heap} {P:Nat} {ns:List Bs} {ag:List D} (hn:∀ x∈ns,yC x=true) (ha:jP 64 oD ag) {row:List AV} (oP:h0.own P row) {s1 s2:SL} (h13:row[13]? = some (SL.av s1)) (x1:Sl h0 V s1 (ns.map D.s)) (x2:Sl h0 V s2 ag) (pk:PK h0) :
  ∀ (M i:Nat) (out:SL) (h:Heap),i≤ag.length→ag.length-i<M→OwV (Fr0 h0) h out 1 (((dF ns ag).map D.s).take i)→Chg [] h0 h→∃ out' h',nK N M (some (P,0)) out s2 (ag.length:Int) (i:Int) h=some (.exit 0,(some (P,0),out',()),h')∧OwV (Fr0 h0) h' out' 1 ((dF ns ag).map D.s)∧Chg [] h0 h':=by
 have hlen:((dF ns ag).map D.s).length=ag.length:=by rw [List.length_map,jD]
 have hl64:=ha.1;have key:=dA8 (h0:=h0) (n:=1) (k:=0) (xs:=(dF ns ag).map D.s) (L:=fun M out i h=>nK N M (some (P,0)) out s2 (ag.length:Int) i h) (fin:=fun out=>(some (P,0),out,())) ?_ ?_
 ·intro M i out h hi hM ho hc
  exact key M i out h (by omega) (by omega) ho hc
 ·intro M i hi out h ho hc
  rw [hlen] at hi;show ∃ out' h',nK N (M+1) (some (P,0)) out s2 (ag.length:Int) (i:Int) h=nK N M (some (P,0)) out' s2 (ag.length:Int) ((i+1:Nat):Int) h'∧_;rw [vQ];unfold jO;simp only [aC,hi,decide_true,cond_true];have hm:=ha.2 _ (List.getElem_mem hi);have x:=x2.chg hc (by simp);obtain ⟨r,g,d⟩:=jR.elt x hi (tC hm);rw [x.ix hi 4,g,jR.agg];obtain ⟨h5,p5,c5,o5⟩:=jR.park (z:=opc (0,0,[],sl0,())) rfl h r;have p5':∀ {β:Type} (K:Heap→Option β),tA ((h.push (.row [(.int .i64 0),(.int .i64 0),(.str []),(.slice none 0 0 0)] .own)).store (h.next,0) [(.int .i64 r.1),(.int .i64 r.2.1),(.str r.2.2.1),(.slice r.2.2.2.1.a r.2.2.2.1.len r.2.2.2.1.cap r.2.2.2.1.sz)]) K=K h5:=p5;rw [p5',jR.cells o5];have d5:=Dt.chg c5 (by simp) d;obtain ⟨h6,e6,c6⟩:=vM (N:=N) hm (pk.chg (hc.trans c5)) d5;have c06:=c5.trans c6;have hol:=iH hm;show ∃ out' h',(kA (f177 N r h5) _)=_∧_;rw [e6,aA];have oP6:=oP.chg (hc.trans c06) (by simp);have b13:h6.cell (P,13)=some (.slice s1.a s1.len s1.cap s1.sz):=by rw [oP6.cell 13,h13];rfl
  have x16:=x1.chg (hc.trans c06) (by simp);have l1:s1.len=ns.length:=by rw [x1.len,List.length_map]
  simp only [fA,Nat.zero_add,b13,bA,jA];have hi':i<(dF ns ag).length:=by rw [jD];exact hi
  have hget:=lO ns ag i hi' hi;have ltn:ltInt (i:Int) (Int.ofNat s1.len)=decide (i<ns.length):=by rw [l1];exact aC i ns.length
  rw [ltn]
  by_cases q:i<ns.length
  ·rw [dif_pos q] at hget
   have hnl:=eF (hn _ (List.getElem_mem q));simp only [q,decide_true,cond_true,b13,bA,jA];have hix:∀ {β:Type} (K:Nat×Nat→Option β),ixK s1.a s1.len (i:Int) 1 K=K (s1.at i 1):=fun K=>x16.ix (i:=i) (by rw [List.length_map];exact q) 1 K;rw [hix,gK x16 q];simp only [bA,qA];rw [tB (by simp;omega)];simp only [bA,qA];rw [tB (by simp;omega)];simp only [bA,qA];obtain ⟨s',h',e',o',c'⟩:=qP hi' ho hc c06 (by rw [jD];omega) hget.symm;rw [e',eB (by omega)];exact ⟨s',h',rfl,o',c'⟩
  ·rw [dif_neg q] at hget
   simp only [q,decide_false,cond_false];obtain ⟨s',h',e',o',c'⟩:=qP hi' ho hc c06 (by rw [jD];omega) hget.symm;rw [e',eB (by omega)];exact ⟨s',h',rfl,o',c'⟩
 ·intro M out h
  rw [hlen];show nK N (M+1) (some (P,0)) out s2 (ag.length:Int) (ag.length:Int) h=_;rw [vQ];unfold jO;simp only [aC,Nat.lt_irrefl,decide_false,cond_false]
theorem rP {d:D} (h:mayVa d):(vaX d).length≤300000:=by
 cases h with
 | op h=>rw [show ([]:List D)=([]:List Bs).map D.s from rfl,wA9];exact Nat.le_trans (iH h) (by decide)
 | ref hk h=>
  have:=uM h
  rw [show ([]:List D)=([]:List Bs).map D.s from rfl,wA9];rcases hk with rfl | rfl <;> simp <;> omega
 | no h=>
  have:=iH h
  rw [show ([]:List D)=([]:List Bs).map D.s from rfl,wA9];simp;omega
 | bin ha hb hk=>
  have:=iH ha
  have:=iH hb
  rw [show ([]:List D)=([]:List Bs).map D.s from rfl,wA9];rcases hk with rfl | rfl | rfl | rfl <;> simp [uA9] <;> omega
 | call hn h=>
  have h1:=fH hn;have h2:=lV (ns:=[]) (by simp) h;rw [show ([]:List D)=([]:List Bs).map D.s from rfl,wA9];simp;omega
 | make hn hl hs h=>
  have h1:=fH hn;have h2:=lV hs h;rw [wA9];simp only [show ¬ (7:Int)=2 from by decide,show ¬ (7:Int)=3 from by decide,show ¬ (7:Int)=4 from by decide,show ¬ (7:Int)=5 from by decide,show ¬ (7:Int)=6 from by decide,if_false,if_true]
  split
  ·simp;omega
  ·simp;omega
theorem tAc {H H':Heap} {A:Nat} {cs:List AV} (o:H.own A cs) (o':H'.own A cs):uO (H.t.get A) (H'.t.get A)=true:=by
 have e1:H.t.get A=some (.row cs .own):=o.1;have e2:H'.t.get A=some (.row cs .own):=o'.1;rw [e1,e2];show (eqV (.agg cs) (.agg cs)&&yAt .own .own)=true;rw [nH];rfl
theorem yAj {d:D} (h:mayVa d):∃ (k:Int) (a b:D) (op:Int) (pl:D) (nm:Bs) (ns:List Bs) (ag:List D),d=vaD k a b op pl nm (ns.map D.s) ag∧isOp a∧isOp b∧isLf pl∧(∀ x∈ns,yC x=true)∧jP 64 oD ag∧nm.length≤66∧
  ((k=1∧oD a)∨(k=2∧qL pl)∨(k=3∧qL pl)∨(k=4∧oD a)∨(k=5∧oD a∧oD b∧(op=1∨op=2∨op=3∨op=4))∨k=6∨k=7):=by
 have o0:isOp op0:=⟨0,0,pl0,rfl,[],[],rfl,by simp⟩;have p0:isLf pl0:=⟨[],[],rfl,by simp⟩
 cases h with
 | op h=>exact ⟨1,_,_,_,_,_,[],[],rfl,tC h,o0,p0,by simp,⟨by simp,by simp⟩,by simp,.inl ⟨rfl,h⟩⟩
 | ref hk h=>
  rcases hk with rfl | rfl
  ·exact ⟨2,_,_,_,_,_,[],[],rfl,o0,o0,rH h,by simp,⟨by simp,by simp⟩,by simp,.inr (.inl ⟨rfl,h⟩)⟩
  ·exact ⟨3,_,_,_,_,_,[],[],rfl,o0,o0,rH h,by simp,⟨by simp,by simp⟩,by simp,.inr (.inr (.inl ⟨rfl,h⟩))⟩
 | no h=>exact ⟨4,_,_,_,_,_,[],[],rfl,tC h,o0,p0,by simp,⟨by simp,by simp⟩,by simp,.inr (.inr (.inr (.inl ⟨rfl,h⟩)))⟩
 | bin ha hb hk=>exact ⟨5,_,_,_,_,_,[],[],rfl,tC ha,tC hb,p0,by simp,⟨by simp,by simp⟩,by simp,.inr (.inr (.inr (.inr (.inl ⟨rfl,ha,hb,hk⟩))))⟩
 | call hn h=>exact ⟨6,_,_,_,_,_,[],_,rfl,o0,o0,p0,by simp,h,fH hn,.inr (.inr (.inr (.inr (.inr (.inl rfl)))))⟩
 | make hn hl hs h=>exact ⟨7,_,_,_,_,_,_,_,rfl,o0,o0,p0,hs,h,fH hn,.inr (.inr (.inr (.inr (.inr (.inr rfl)))))⟩
theorem dA2 (hN:200≤N) {d:D} (hd:mayVa d) (pk:PK h) {r:VaV} (x:Dt h V d (vac r)):∃ h',f131 N r h=some (vaX d,h')∧Chg [] h h':=by
 have hvl:=rP hd;obtain ⟨k,a,b,op,pl,nm,ns,ag,rfl,ta,tb,tp,hns,hag,hnm,hk⟩:=yAj hd;unfold f131;have o1:=vA h (vac r);have c1:=uA h (.row (vac r) .own);have e1:h.push (.row (yRB r) .own)=h.push (.row (vac r) .own):=rfl;dsimp only;rw [e1];have x:=Dt.chg c1 (by simp) x;have pk:=pk.chg c1;generalize h.push (.row (vac r) .own)=h1 at *;obtain ⟨ra,rb,rp,s1,s2,hc,xa,xb,xp,x1,x2⟩:=jK ta tb tp x;have hr:r=fI k ra rb op rp nm s1 s2:=mK hc;subst hr;have a14:h1.cell (h.next,14)=some (.slice s2.a s2.len s2.cap s2.sz):=o1.cell 14;simp only [Nat.add_zero,Nat.zero_add,a14,bA,jA];obtain ⟨out,H,e,ow,c⟩:=qAn (N:=N) hns hag o1 (s1:=s1) (s2:=s2) rfl x1 x2 pk N 0 ⟨none,0,0,0⟩ h1 (Nat.zero_le _) (by have:=hag.1;omega) (OwV.nil _ _ _ _) (Chg.refl _ _);have e0:Int.ofNat s2.len=((ag.length:Nat):Int):=by rw [x2.len];rfl
 rw [show ((0:Nat):Int)=0 from rfl] at e;have es:(⟨s2.a,s2.len,s2.cap,s2.sz⟩:SL)=s2:=rfl;rw [es,e0,e,mB];dsimp only;have hJ:=lV hns hag;rw [fY ow.sl (by rw [jD];have:=hag.1;omega) (Nat.le_trans hJ (by decide)),aA];rw [wA9] at hvl ⊢;generalize Qb.joinL (dF ns ag) [44,32]=J at *;have oH:=o1.chg c (by simp);have pkH:=pk.chg c;have xa:=Dt.chg c (by simp) xa;have xb:=Dt.chg c (by simp) xb;have xp:=Dt.chg c (by simp) xp;have cH:=c1.trans c;have rd0:∀ {G:Heap},G.own h.next (vac (fI k ra rb op rp nm s1 s2))→G.cell (h.next,0)=some (.int .i64 k):=fun o=>o.cell 0;have rd9:∀ {G:Heap},G.own h.next (vac (fI k ra rb op rp nm s1 s2))→G.cell (h.next,9)=some (.int .i64 op):=fun o=>o.cell 9;have rd12:∀ {G:Heap},G.own h.next (vac (fI k ra rb op rp nm s1 s2))→G.cell (h.next,12)=some (.str nm):=fun o=>o.cell 12;have rd1:∀ {G:Heap},G.own h.next (vac (fI k ra rb op rp nm s1 s2))→G.cells (h.next,1) 4=some (.agg (opc ra)):=fun o=>o.cells (j:=1) (m:=4) (show 1+4≤15 by decide);have rd5:∀ {G:Heap},G.own h.next (vac (fI k ra rb op rp nm s1 s2))→G.cells (h.next,5) 4=some (.agg (opc rb)):=fun o=>o.cells (j:=5) (m:=4) (show 5+4≤15 by decide);have rd10:∀ {G:Heap},G.own h.next (vac (fI k ra rb op rp nm s1 s2))→G.cells (h.next,10) 2=some (.agg (lfc rp)):=fun o=>o.cells (j:=10) (m:=2) (show 10+2≤15 by decide);simp only [fA,Nat.zero_add,rd0 oH,bA,fB];rcases hk with ⟨rfl,ha⟩ | ⟨rfl,hp⟩ | ⟨rfl,hp⟩ | ⟨rfl,ha⟩ | ⟨rfl,ha,hb,hop⟩ | rfl | rfl
 ·simp only [show iA 1 2=false from rfl,show iA 1 3=false from rfl,show iA 1 4=false from rfl,show iA 1 5=false from rfl,show iA 1 6=false from rfl,show iA 1 7=false from rfl,cond_false]
  obtain ⟨h',e',c'⟩:=vM (N:=N) ha pkH xa;rw [rd1 oH,iK];show ∃ h',(kA (f177 N ra H) _)=_∧_;rw [e',aA];exact ⟨h',rfl,cH.trans c'⟩
 ·simp only [show iA 2 2=true from rfl,cond_true,if_true]
  obtain ⟨h',e',c'⟩:=kV (N:=N) hp xp
  have:=uM hp
  rw [rd10 oH,pM,e',aA,tB (by simp;omega)];exact ⟨h',rfl,cH.trans c'⟩
 ·simp only [show iA 3 2=false from rfl,show iA 3 3=true from rfl,cond_false,cond_true,show ¬ (3:Int)=2 from by decide,if_false,if_true]
  obtain ⟨h',e',c'⟩:=kV (N:=N) hp xp
  have:=uM hp
  rw [rd10 oH,pM,e',aA,tB (by simp;omega)];exact ⟨h',rfl,cH.trans c'⟩
 ·simp only [show iA 4 2=false from rfl,show iA 4 3=false from rfl,show iA 4 4=true from rfl,cond_false,cond_true,show ¬ (4:Int)=2 from by decide,show ¬ (4:Int)=3 from by decide,if_false,if_true]
  obtain ⟨h',e',c'⟩:=vM (N:=N) ha pkH xa
  have:=iH ha
  rw [rd1 oH,iK];show ∃ h',(kA (f177 N ra H) _)=_∧_;rw [e',aA,tB (by simp;omega)];exact ⟨h',rfl,cH.trans c'⟩
 ·simp only [show iA 5 2=false from rfl,show iA 5 3=false from rfl,show iA 5 4=false from rfl,show iA 5 5=true from rfl,cond_false,cond_true,show ¬ (5:Int)=2 from by decide,show ¬ (5:Int)=3 from by decide,show ¬ (5:Int)=4 from by decide,if_false,if_true]
  have la:=iH ha;have lb:=iH hb;have o4:=vA H [.str [32,43,32],.str [32,45,32],.str [32,60,32],.str [32,61,61,32]];have c4:=uA H (.row [.str [32,43,32],.str [32,45,32],.str [32,60,32],.str [32,61,61,32]] .own);generalize H.push (.row [.str [32,43,32],.str [32,45,32],.str [32,60,32],.str [32,61,61,32]] .own)=H4 at *;have oH4:=oH.chg c4 (by simp);obtain ⟨H5,e5,c5⟩:=vM (N:=N) ha (pkH.chg c4) (Dt.chg c4 (by simp) xa);rw [rd1 oH4,iK];show ∃ h',(kA (f177 N ra H4) _)=_∧_;rw [e5,aA];have oH5:=oH4.chg c5 (by simp);have o45:=o4.chg c5 (by simp);rw [rd9 oH5];simp only [bA,fB];obtain ⟨j,sx,hj,hs,hw⟩:∃ (j:Nat) (sx:Bs),j<4∧[AV.str [32,43,32],.str [32,45,32],.str [32,60,32],.str [32,61,61,32]][j]? = some (.str sx)∧bB .i64 (op-1)=(j:Int)∧sx=uA9 op:=by
   rcases hop with rfl | rfl | rfl | rfl
   ·exact ⟨0,_,by decide,rfl,by decide,rfl⟩
   ·exact ⟨1,_,by decide,rfl,by decide,rfl⟩
   ·exact ⟨2,_,by decide,rfl,by decide,rfl⟩
   ·exact ⟨3,_,by decide,rfl,by decide,rfl⟩
  obtain ⟨hw,rfl⟩:=hw;have lsx:(uA9 op).length≤4:=by
   rcases hop with rfl | rfl | rfl | rfl <;> decide
  rw [hw];have hix:∀ {β:Type} (K:Nat×Nat→Option β),ixK (some (H.next,0)) 4 (j:Int) 1 K=K (H.next,j):=fun K=>by
   show (bif Nat.blt j 4 then tA (some (H.next,0)) fun q=>K (q.1,q.2+j * 1) else none)=_;rw [show Nat.blt j 4=true from by rw [Nat.blt_eq];exact hj,cond_true,fA];simp
  have r5:∀ {G:Heap},G.own H.next [AV.str [32,43,32],.str [32,45,32],.str [32,60,32],.str [32,61,61,32]]→G.cell (H.next,j)=some (.str (uA9 op)):=fun o=>by rw [o.cell j];exact hs
  rw [hix,r5 o45];simp only [bA,qA];rw [tB (by omega)];simp only [bA,qA];obtain ⟨H6,e6,c6⟩:=vM (N:=N) hb ((pkH.chg c4).chg c5) (Dt.chg c5 (by simp) (Dt.chg c4 (by simp) xb));rw [rd5 oH5,iK];show ∃ h',(kA (f177 N rb H5) _)=_∧_;rw [e6,aA,tB (by simp;omega)];have oH6:=oH5.chg c6 (by simp);have o46:=o45.chg c6 (by simp);have sa:rB (some (.agg (opc ra))) (.agg [(.int .i64 ra.1),(.int .i64 ra.2.1),(.str ra.2.2.1),(.slice ra.2.2.2.1.a ra.2.2.2.1.len ra.2.2.2.1.cap ra.2.2.2.1.sz)])=true:=jL _;have sb:rB (some (.agg (opc rb))) (.agg [(.int .i64 rb.1),(.int .i64 rb.2.1),(.str rb.2.2.1),(.slice rb.2.2.2.1.a rb.2.2.2.1.len rb.2.2.2.1.cap rb.2.2.2.1.sz)])=true:=jL _;simp only [bA,qA,rd5 oH4,rd5 oH5,rd5 oH6,rd1 oH4,rd1 oH5,rd1 oH6,rd9 oH4,rd9 oH5,rd9 oH6,r5 o4,r5 o45,r5 o46,sa,sb,eC,cond_true,jC,tAc o46 o45,tAc o45 o4,Bool.and_self];exact ⟨H6,rfl,cH.trans (c4.trans (c5.trans c6))⟩
 ·simp only [show iA 6 2=false from rfl,show iA 6 3=false from rfl,show iA 6 4=false from rfl,show iA 6 5=false from rfl,show iA 6 6=true from rfl,cond_false,cond_true,show ¬ (6:Int)=2 from by decide,show ¬ (6:Int)=3 from by decide,show ¬ (6:Int)=4 from by decide,show ¬ (6:Int)=5 from by decide,if_false,if_true,rd12 oH,bA,qA]
  rw [tB (by simp;omega)];simp only [bA,qA];rw [tB (by simp;omega)];simp only [bA,qA];rw [tB (by simp;omega)];exact ⟨H,rfl,cH⟩
 ·simp only [show iA 7 2=false from rfl,show iA 7 3=false from rfl,show iA 7 4=false from rfl,show iA 7 5=false from rfl,show iA 7 6=false from rfl,show iA 7 7=true from rfl,cond_false,cond_true,show ¬ (7:Int)=2 from by decide,show ¬ (7:Int)=3 from by decide,show ¬ (7:Int)=4 from by decide,show ¬ (7:Int)=5 from by decide,show ¬ (7:Int)=6 from by decide,if_false,if_true]
  cases J with
  | nil=>
   simp only [show (!aB [] [])=false from rfl,cond_false,rd12 oH,bA,qA,if_true];rw [tB (by simp;omega)];simp only [bA,qA];rw [tB (by simp;omega)];simp only [bA,qA];rw [tB (by simp;omega)];exact ⟨H,rfl,cH⟩
  | cons y t=>
   simp only [show (!aB (y::t) [])=true from rfl,cond_true,reduceCtorEq,if_false];rw [tB (by simp at hJ ⊢;omega)];simp only [bA,qA,rd12 oH];rw [tB (by simp;omega)];simp only [bA,qA];rw [tB (by simp at hJ ⊢;omega)];simp only [bA,qA];rw [tB (by simp at hJ ⊢;omega)];exact ⟨H,rfl,cH⟩
end
end Qp
namespace Qp
theorem oAs:E.und 80=some (.pointer 83):=by kernel_rfl
theorem cAp:E.und 189=some .unsafePointer:=by kernel_rfl
theorem oAz:E.und 144=some (.pointer 5):=by kernel_rfl
theorem pAz:E.und 9=some .string:=by kernel_rfl
theorem aAk:E.size 83=some 2:=by kernel_rfl
theorem qAz:E.size 85=some 2:=by kernel_rfl
theorem bB5:E.size 5=some 1:=by kernel_rfl
theorem rAz:E.lies 85 0 83=true:=by kernel_rfl
theorem cB5:AppN E 81 5 1 10:=AppN.of (by kernel_rfl)
structure PrB (h:Heap) (A:Nat) (b:Bs) (s:SL):Prop where
 row:∃ q,h.t.get A=some (.row [.ptr q,SL.av s] (.ty 85))∧(q=none∨q=some (A,0))
 lt:A<h.next
 buf:(s=⟨none,0,0,0⟩∧b=[])∨∃ B,s=⟨some (B,0),b.length,b.length,1⟩∧B<h.next∧B≠A∧h.t.get B=some (.row (ofBytes b) (.bytes 5))∧0<b.length
section
variable {N:Nat} {h h':Heap} {A:Nat} {b x:Bs} {s:SL}
theorem PrB.chg {M:List Nat} (p:PrB h A b s) (c:Chg M h h') (hA:A ∉ M) (hB:∀ B,s.blk=some B→B ∉ M):PrB h' A b s:=by
 refine ⟨?_,Nat.lt_of_lt_of_le p.lt c.next,?_⟩
 ·obtain ⟨q,h1,h2⟩:=p.row
  exact ⟨q,(c.g A p.lt hA).trans h1,h2⟩
 ·rcases p.buf with h1 | ⟨B,h1,h2,h3,h4,h5⟩
  ·exact .inl h1
  ·exact .inr ⟨B,h1,Nat.lt_of_lt_of_le h2 c.next,h3,(c.g B h2 (hB B (by rw [h1];rfl))).trans h4,h5⟩
theorem PrB.len (p:PrB h A b s):s.len=b.length:=by
 rcases p.buf with ⟨rfl,rfl⟩ | ⟨B,rfl,_⟩ <;> rfl
theorem PrB.cell (p:PrB h A b s):h.cell (A,1)=some (.slice s.a s.len s.cap s.sz):=by
 obtain ⟨q,h1,_⟩:=p.row;simp only [Heap.cell,Heap.row,h1];rfl
theorem bAk (p:PrB h A b s):f43 N (some (A,0)) h=some ((b.length:Int),h):=by
 unfold f43;simp only [fA,Nat.zero_add,p.cell,bA,jA,p.len];rfl
theorem cAk (q:zE2) {β:Type} (K:zE2→Option β):dA (.val zF2) (some (.ptr q)) K=K q:=rfl
theorem mV (q:zE2) (h:Heap) {β:Type} (K:zE2→Heap→Option β):cI (.val zF2) (some (.ptr q,h)) K=K q h:=rfl
theorem dAk (v:AV) (h:Heap) {β:Type} (K:AV→Heap→Option β):cI (.val zK2) (some (v,h)) K=K v h:=rfl
theorem rAn (b:Bool) {β:Type} (K:Bool→Option β):dA (.val zI2) (some (.bool b)) K=K b:=rfl
theorem tAn {cs:List AV} (hr:h.row A=some cs) (hl:0<cs.length):lY E 80 189 (.ptr (some (A,0))) h=some (.ptr (some (A,0)),h):=by
 have hb:Nat.blt 0 cs.length=true:=by rw [Nat.blt_eq];exact hl
 unfold lY;simp only [oAs,cAp,hr,aAk,hb,cond_true]
theorem pAs {cs:List AV} (hr:h.t.get A=some (.row cs (.ty 85))) (hl:cs.length=2):lY E 189 80 (.ptr (some (A,0))) h=some (.ptr (some (A,0)),h):=by
 have hb:Nat.beq cs.length (1+1)=true:=by rw [hl];rfl
 unfold lY;simp only [oAs,cAp,hr,aAk,qAz,hb,rAz,Bool.and_self,cond_true]
theorem qAs (p:PrB h A b s):∃ h',f127 N (some (A,0)) h=some ((),h')∧PrB h' A b s∧Chg [A] h h'∧h'.next=h.next:=by
 obtain ⟨q,hr,hq⟩:=p.row;have hrow:h.row A=some [.ptr q,SL.av s]:=by simp only [Heap.row,hr]
 have c0:h.cell (A,0)=some (.ptr q):=by simp only [Heap.cell,hrow];rfl
 unfold f127;simp only [fA,Nat.zero_add,Nat.add_zero,c0,cAk];rcases hq with rfl | rfl
 ·simp only [Option.isNone_none,cond_true]
  rw [tAn hrow (by simp),dAk,show f175 N (.ptr (some (A,0))) h=some (.ptr (some (A,0)),h) from rfl,aA,pAs hr rfl,mV];have hst:h.store (A,0) [.ptr (some (A,0))]=some (h.put A (.row [.ptr (some (A,0)),SL.av s] (.ty 85))):=by
   simp only [Heap.store,Heap.rowW,hr];rfl
  rw [hst,fA];have c:Chg [A] h (h.put A (.row [.ptr (some (A,0)),SL.av s] (.ty 85))):=(Chg.refl [A] h).put (.inl (by simp)) _;refine ⟨_,rfl,⟨⟨some (A,0),wN _ rfl,.inr rfl⟩,p.lt,?_⟩,c,rfl⟩;rcases p.buf with h1 | ⟨B,h1,h2,h3,h4,h5⟩
  ·exact .inl h1
  ·exact .inr ⟨B,h1,h2,h3,(c.g B h2 (by simpa using h3)).trans h4,h5⟩
 ·simp only [Option.isNone_some,cond_false]
  have hb:kY E .neq 80 (.tmp 17) (.tmp 18) (.ptr (some (A,0))) (.ptr (some (A,0)))=some (.bool false):=by
   have he:eqA E 9 80 (.ptr (some (A,0))) (.ptr (some (A,0)))=some true:=by
    unfold eqA;simp only [oAs,aAk];simp [dAd]
   show lAt E .neq 80 (.tmp 17) (.tmp 18) (.ptr (some (A,0))) (.ptr (some (A,0)))=_;have hc:oAk E 80 (.tmp 17) (.tmp 18) (.ptr (some (A,0))) (.ptr (some (A,0)))=some true:=by simp only [oAk,fAf,cond_true,he]
   simp only [lAt,hc,Bool.not_true]
  rw [hb,rAn];exact ⟨h,rfl,p,Chg.refl _ _,rfl⟩
theorem nV:∀ (a c:Bs),ofBytes (a++c)=ofBytes a++ofBytes c
 | [],c=>rfl
 | x::r,c=>by simp only [List.cons_append,ofBytes,nV r c]
theorem cM:∀ (a:Bs),(ofBytes a).all AV.single=true
 | []=>rfl
 | x::r=>by simp only [ofBytes,List.all_cons,cM r,Bool.and_true];rfl
theorem eAk (p:PrB h A b s) (hx:b.length+x.length≤100000000):∃ (s':SL) (h6:Heap),uC E 81 9 (.slice s.a s.len s.cap s.sz) (.str x) h=some (.slice s'.a s'.len s'.cap s'.sz,h6)∧h6.t.get A=h.t.get A∧A<h6.next∧
  ((s'=⟨none,0,0,0⟩∧b++x=[])∨∃ B,s'=⟨some (B,0),(b++x).length,(b++x).length,1⟩∧B<h6.next∧B≠A∧h6.t.get B=some (.row (ofBytes (b++x)) (.bytes 5))∧0<(b++x).length)∧Chg s.blk.toList h h6∧(∀ B,s'.blk=some B→s.blk=some B∨h.next≤B):=by
 obtain ⟨hu,⟨i,hi,hi1,hi2⟩,⟨z,hz,hz1⟩⟩:=cB5;have hA:=p.lt;have hfirst:iC h 1 x.length (.str x)=some (ofBytes x):=by simp only [iC,List.take_length]
 by_cases hn:x=[]
 ·subst hn
  refine ⟨s,h,?_,rfl,hA,?_,(Chg.refl [] h).mono (by simp),fun B hB=>.inl hB⟩
  ·have hf0:iC h 1 0 (.str [])=some []:=rfl
   simp only [uC,pAz,hu,tJ,fS,cond_false,hi,hz,wG,List.length_nil,hi1,hf0,show Nat.beq 0 0=true from rfl,cond_true]
  ·rw [List.append_nil]
   rcases p.buf with h1 | ⟨B,h1,h2,h3,h4,h5⟩
   ·exact .inl h1
   ·exact .inr ⟨B,h1,h2,h3,h4,h5⟩
 have hpos:0<x.length:=List.length_pos_iff.2 hn;have hn0:Nat.beq x.length 0=false:=by
  cases hq:Nat.beq x.length 0 with
  | false=>rfl
  | true=>have:=Nat.eq_of_beq_eq_true hq;omega
 have hlen:=p.len;have hroom:Nat.ble ((s.len+x.length) * (i.bytes+1+1)) wM=true:=by
  have h1:(s.len+x.length) * (i.bytes+1+1)≤(s.len+x.length) * 10:=Nat.mul_le_mul (Nat.le_refl _) (by omega);simp only [wM,Nat.ble_eq];omega
 have hz2:Nat.beq z.cells.length 1=true:=by rw [hz1];rfl
 have hnl:Nat.beq (ofBytes x).length (x.length * 1)=true:=by rw [iE,Nat.mul_one];exact Nat.beq_refl _
 have hsz:(Nat.beq s.sz 1||s.a.isNone)=true:=by
  rcases p.buf with ⟨rfl,_⟩ | ⟨B,rfl,_⟩ <;> rfl
 have key:uC E 81 9 (.slice s.a s.len s.cap s.sz) (.str x) h=growB 5 h s.a s.len s.cap 1 x.length (ofBytes x):=by
  simp only [uC,pAz,hu,tJ,fS,cond_false,hi,hz,wG];simp only [hi1,hfirst,hn0,cond_false,hroom,hsz,hz2,hnl,cM,Bool.and_self,cond_true]
 rw [key];rcases p.buf with ⟨rfl,rfl⟩ | ⟨B,rfl,h2,h3,h4,h5⟩
 ·refine ⟨⟨some (h.next,0),([]++x).length,([]++x).length,1⟩,h.push (.row (ofBytes x) (.bytes 5)),?_,vN (A:=A) _ (by omega),Nat.lt_succ_of_lt hA,.inr ⟨h.next,rfl,Nat.lt_succ_self _,by omega,uF _ rfl,by simpa using hpos⟩,((Chg.refl [] h).push _).mono (by simp),fun B hB=>.inr ?_⟩
  ·simp only [growB,Nat.zero_add,List.nil_append]
  ·have hB':some h.next=some B:=hB
   simp only [Option.some.injEq] at hB';omega
 ·have htk:takeN (b.length * 1) ((ofBytes b).drop 0)=some (ofBytes b):=by
   rw [List.drop_zero,Nat.mul_one,iG _ _ (by rw [iE];exact Nat.le_refl _),List.take_of_length_le (by rw [iE];exact Nat.le_refl _)]
  have c1:Chg [B] h (h.put B (.row (ofBytes b) .dead)):=(Chg.refl [B] h).put (.inl (by simp)) _;refine ⟨⟨some (h.next,0),(b++x).length,(b++x).length,1⟩,(h.put B (.row (ofBytes b) .dead)).push (.row (ofBytes (b++x)) (.bytes 5)),?_,?_,Nat.lt_succ_of_lt hA,.inr ⟨h.next,rfl,Nat.lt_succ_self _,by omega,uF (h:=h.put B (.row (ofBytes b) .dead)) _ rfl,by rw [List.length_append];omega⟩,c1.push _,fun B' hB=>.inr ?_⟩
  ·have hb:(Nat.beq 5 5&&Nat.beq 0 0)=true:=rfl
   simp only [growB,h4,hb,cond_true,htk,nV,List.length_append]
  ·have e1:((h.put B (.row (ofBytes b) .dead)).push (.row (ofBytes (b++x)) (.bytes 5))).g A=(h.put B (.row (ofBytes b) .dead)).g A:=vN _ (by show A≠h.next;omega)
   exact e1.trans (dAb _ (fun e=>h3 e.symm))
  ·have hB':some h.next=some B':=hB
   simp only [Option.some.injEq] at hB';omega
theorem tAz (p:PrB h A b s) (hx:b.length+x.length≤100000000):∃ s' h' r,f81 N (some (A,0)) x h=some (r,h')∧PrB h' A (b++x) s'∧Chg (A::s.blk.toList) h h'∧(∀ B,s'.blk=some B→s.blk=some B∨h.next≤B):=by
 unfold f81;obtain ⟨h2,e2,p2,c2,n2⟩:=qAs (N:=N) p;obtain ⟨s',h6,e6,gA,lA,bf,c6,nb⟩:=eAk p2 hx;rw [e2,aA];simp only [fA,Nat.zero_add,p2.cell,bA,jA];rw [e6];simp only [fP,jA];obtain ⟨q,hr,hq⟩:=p2.row;have hst:h6.store (A,1) [(.slice s'.a s'.len s'.cap s'.sz)]=some (h6.put A (.row [.ptr q,SL.av s'] (.ty 85))):=by
  simp only [Heap.store,Heap.rowW,gA,hr];rfl
 rw [hst,fA];have c8:Chg [A] h6 (h6.put A (.row [.ptr q,SL.av s'] (.ty 85))):=(Chg.refl [A] h6).put (.inl (by simp)) _;refine ⟨s',_,_,rfl,⟨⟨q,wN _ rfl,hq⟩,lA,?_⟩,?_,fun B hB=>(nb B hB).imp id fun h=>by omega⟩
 ·rcases bf with h1 | ⟨B,h1,h3,h4,h5,h7⟩
  ·exact .inl h1
  ·exact .inr ⟨B,h1,h3,h4,(c8.g B h3 (by simpa using h4)).trans h5,h7⟩
 ·have a:Chg (A::s.blk.toList) h h2:=c2.mono (by simp)
  have b:Chg (A::s.blk.toList) h2 h6:=c6.mono (fun B hB=>List.mem_cons_of_mem _ hB);have d:Chg (A::s.blk.toList) h6 (h6.put A (.row [.ptr q,SL.av s'] (.ty 85))):=c8.mono (by simp);exact (a.trans b).trans d
end
def Lim (b t:Bs):Prop:=b.length≤2000000∧((t.length≤1048576∧b=t)∨(1048576<t.length∧1048576<b.length))
def PQ (h0 h:Heap) (A:Nat) (t:Bs) (s:SL):Prop:=∃ b,PrB h A b s∧(∀ B,s.blk=some B→h0.next≤B)∧h0.next≤A∧Chg [] h0 h∧Lim b t
def Put (h0 h:Heap) (A:Nat) (s:SL) (h':Heap) (t':Bs):Prop:=∃ s',PQ h0 h' A t' s'∧Chg (A::s.blk.toList) h h'∧∀ B,s'.blk=some B→s.blk=some B∨h.next≤B
theorem tP {s:SL} {B:Nat} (h:B∈s.blk.toList):s.blk=some B:=by
 cases hq:s.blk with
 | none=>rw [hq] at h;cases h
 | some y=>rw [hq] at h;simp at h;rw [h]
section
variable {N:Nat} {h0 h h1 h2:Heap} {A:Nat} {t t1 t2:Bs} {s s1:SL}
theorem PQ.chg (p:PQ h0 h A t s) (c:Chg [] h h1):PQ h0 h1 A t s:=by
 obtain ⟨b,p,hs,hA,c0,l⟩:=p;exact ⟨b,p.chg c (by simp) (by simp),hs,hA,c0.trans c,l⟩
theorem PQ.base (p:PQ h0 h A t s):Chg [] h0 h:=by obtain ⟨b,p,hs,hA,c0,l⟩:=p;exact c0
theorem PQ.lt (p:PQ h0 h A t s):A<h.next∧∀ B,s.blk=some B→B<h.next:=by
 obtain ⟨b,p,hs,hA,c0,l⟩:=p;refine ⟨p.lt,fun B hB=>?_⟩;rcases p.buf with ⟨rfl,_⟩ | ⟨B',rfl,h2,_⟩
 ·cases hB
 ·have:some B'=some B:=hB
  simp only [Option.some.injEq] at this;omega
theorem PQ.out (p:PQ h0 h A t s) {P:Nat} (hP:h.next≤P):P ∉ A::s.blk.toList:=fun hm=>by
 have:=p.lt
 rcases List.mem_cons.1 hm with rfl | hm
 ·omega
 ·have:=this.2 P (tP hm);omega
theorem PQ.same (p:PQ h0 h A t s):Put h0 h A s h t:=⟨s,p,(Chg.refl [] h).mono (by simp),fun B hB=>.inl hB⟩
theorem Put.pre (c:Chg [] h h1) (x:Put h0 h1 A s h2 t2):Put h0 h A s h2 t2:=by
 obtain ⟨s',p,c',hb⟩:=x;exact ⟨s',p,(c.mono (by simp)).trans c',fun B hB=>(hb B hB).imp id fun h=>Nat.le_trans c.next h⟩
theorem Put.trans' {s':SL} (p:PQ h0 h1 A t1 s') (c':Chg (A::s.blk.toList) h h1) (hb:∀ B,s'.blk=some B→s.blk=some B∨h.next≤B) (y:Put h0 h1 A s' h2 t2):Put h0 h A s h2 t2:=by
 obtain ⟨s2,p2,c2,hb2⟩:=y;refine ⟨s2,p2,c'.step c2 fun X hX hlt=>?_,fun B hB=>?_⟩
 ·rcases List.mem_cons.1 hX with rfl | hX
  ·simp
  ·rcases hb X (tP hX) with h1 | h1
   ·rw [h1];simp
   ·omega
 ·rcases hb2 B hB with h1 | h1
  ·exact hb B h1
  ·exact .inr (Nat.le_trans c'.next h1)
theorem Lim.over {b t:Bs} (l:Lim b t) (h:1048576<b.length) (x:Bs):Lim b (t++x):=by
 obtain ⟨l1,l2⟩:=l;refine ⟨l1,.inr ⟨?_,h⟩⟩;rw [List.length_append];rcases l2 with ⟨a,rfl⟩ | ⟨a,_⟩ <;> omega
theorem uAn {L:Nat} {xs:List Bs} (hxs:∀ x∈xs,x.length≤900000) (hl:xs.length≤100):∀ (M i:Nat) (h:Heap) (t b:Bs) (s:SL),i≤xs.length→xs.length-i<M→PrB h A b s→(∀ B,s.blk=some B→h0.next≤B∧B≠L)→h0.next≤A→A≠L→h.own L (xs.map AV.str)→Chg [] h0 h→Lim b t→
  ∃ h',iA5 N M (some (A,0)) ⟨some (L,0),xs.length,xs.length,1⟩ (xs.length:Int) (i:Int) h=some (.exit 0,(),h')∧Put h0 h A s h' (t++(xs.drop i).flatten):=by
 intro M
 induction M with
 | zero=>intro i h t b s _ hM;omega
 | succ M ih=>
  intro i h t b s hi hM p hs hA hL o c l;rw [aA9];unfold kA1;simp only [aC]
  by_cases q:i<xs.length
  ·simp only [q,decide_true,cond_true]
   have hix:∀ {β:Type} (K:Nat×Nat→Option β),ixK (some (L,0)) xs.length (i:Int) 1 K=K (L,i):=fun K=>by
    show (bif Nat.blt i xs.length then tA (some (L,0)) fun q=>K (q.1,q.2+i * 1) else none)=_;rw [show Nat.blt i xs.length=true from by rw [Nat.blt_eq];exact q,cond_true,fA];simp
   have hc:h.cell (L,i)=some (.str xs[i]):=by rw [o.cell i,List.getElem?_map,List.getElem?_eq_getElem q];rfl
   rw [hix,hc];simp only [bA,qA,fA,Nat.add_zero];rw [bAk p,aA];have hle:wB (b.length:Int) 1048576=decide (b.length≤1048576):=by
    rw [leI]
    by_cases h1:b.length≤1048576
    ·rw [decide_eq_true h1,decide_eq_true];omega
    ·rw [decide_eq_false h1,decide_eq_false];omega
   rw [hle];have hdrop:(xs.drop i).flatten=xs[i]++(xs.drop (i+1)).flatten:=by rw [List.drop_eq_getElem_cons q,List.flatten_cons]
   have hw:=hxs _ (List.getElem_mem q);rw [hdrop,← List.append_assoc]
   by_cases hb:b.length≤1048576
   ·have hbt:t.length≤1048576∧b=t:=by
     rcases l.2 with h1 | ⟨_,h1⟩
     ·exact h1
     ·omega
    obtain ⟨hbt,rfl⟩:=hbt;obtain ⟨s',h2,r,e2,p2,c2,nb⟩:=tAz (N:=N) (x:=xs[i]) p (by omega);simp only [hb,decide_true,cond_true];rw [e2,aA,eB (by omega)];have hm:∀ B,B∈A::s.blk.toList→h0.next≤B∧B≠L:=fun B hB=>by
     rcases List.mem_cons.1 hB with rfl | hB
     ·exact ⟨hA,hL⟩
     ·exact hs B (tP hB)
    have oL:=o.2;have hs2:∀ B,s'.blk=some B→h0.next≤B∧B≠L:=fun B hB=>by
     rcases nb B hB with h1 | h1
     ·exact hs B h1
     ·exact ⟨Nat.le_trans c.next h1,by omega⟩
    have c02:Chg [] h0 h2:=c.step c2 fun B hB hlt=>by have:=(hm B hB).1;omega
    have l2:Lim (b++xs[i]) (b++xs[i]):=⟨by rw [List.length_append];omega,by
     by_cases hq:(b++xs[i]).length≤1048576
     ·exact .inl ⟨hq,rfl⟩
     ·exact .inr ⟨by omega,by omega⟩⟩
    obtain ⟨h',e',y⟩:=ih (i+1) h2 (b++xs[i]) (b++xs[i]) s' q (by omega) p2 hs2 hA hL (o.chg c2 fun hB=>(hm L hB).2 rfl) c02 l2;exact ⟨h',e',Put.trans' ⟨_,p2,fun B hB=>(hs2 B hB).1,hA,c02,l2⟩ c2 nb y⟩
   ·simp only [hb,decide_false,cond_false]
    rw [eB (by omega)];exact ih (i+1) h (t++xs[i]) b s q (by omega) p hs hA hL o c (l.over (by omega) _)
  ·simp only [q,decide_false,cond_false]
   have:xs.drop i=[]:=List.drop_eq_nil_of_le (by omega)
   rw [this];have pq:PQ h0 h A (t++([]:List Bs).flatten) s:=⟨b,p,fun B hB=>(hs B hB).1,hA,c,by rw [List.flatten_nil,List.append_nil];exact l⟩;exact ⟨h,rfl,pq.same⟩
theorem fF (hN:200≤N) (p:PQ h0 h A t s) {xs:List Bs} (hxs:∀ x∈xs,x.length≤900000) (hl:xs.length≤100) {n:Nat} (hn:n=xs.length) {row:List AV} (hr:row=xs.map AV.str) :
  ∃ h',f39 N (some (A,0)) ⟨some (h.next,0),n,n,1⟩ (h.push (.row row .own))=some ((),h')∧Put h0 h A s h' (t++xs.flatten):=by
 subst hn hr;have hlt:=p.lt;obtain ⟨b,p,hs,hA,c,l⟩:=p;have o:=vA h (xs.map AV.str);have c1:=uA h (.row (xs.map AV.str) .own);obtain ⟨h',e,q⟩:=uAn (N:=N) (h0:=h0) hxs hl N 0 (h.push (.row (xs.map AV.str) .own)) t b s (Nat.zero_le _) (by omega) (p.chg c1 (by simp) (by simp)) (fun B hB=>⟨hs B hB,by have:=hlt.2 B hB;omega⟩) hA (by omega) o (c.trans c1) l;rw [List.drop_zero] at q;rw [show ((0:Nat):Int)=0 from rfl] at e;unfold f39;have e':iA5 N N (some (A,0)) ⟨some (h.next,0),xs.length,xs.length,1⟩ (Int.ofNat xs.length) 0 (h.push (.row (xs.map AV.str) .own))=some (.exit 0,(),h'):=e;dsimp only;rw [e'];exact ⟨h',rfl,q.pre c1⟩
theorem fAk (hN:200≤N) (p:PQ h0 h A t s) {k:Nat} (hk:k≤1000):∃ h',f82 N (some (A,0)) (k:Int) h=some ((),h')∧Put h0 h A s h' (t++Lib.repeatL [9] k):=by
 unfold f82;have hr:f128 N [9] (k:Int) h=some (Lib.repeatL [9] k,h):=by
  unfold f128 Qb.repF;have hb:(Nat.ble k 9223372036854775807&&Nat.ble (([9]:Bs).length * k) 140737488355328)=true:=by
   rw [Bool.and_eq_true,Nat.ble_eq,Nat.ble_eq];simp;omega
  show (bif Nat.ble k 9223372036854775807&&Nat.ble (([9]:Bs).length * k) 140737488355328 then some (Lib.repeatL [9] k,h) else none)=_;rw [hb];rfl
 rw [hr,aA];obtain ⟨h',e,q⟩:=fF hN p (xs:=[Lib.repeatL [9] k]) (fun x hx=>by rw [List.mem_singleton.1 hx,Lib.repeatL_length];simp;omega) (by simp) (n:=1) rfl (row:=[.str (Lib.repeatL [9] k)]) rfl;dsimp only;rw [e,aA];refine ⟨h',rfl,?_⟩;simpa using q
end
end Qp
namespace Qp
def gAk (m:Bool) (nm:Bs) (ty:D) (hs:Bool) (va:D):Bs:=(if m=true then [108,101,116,32,109,117,116,32] else [108,101,116,32])++nm++[58,32]++tyX 64 ty++(if hs=true then [32,61,32]++vaX va else [])++[59]
section
variable {N:Nat} {h:Heap} {V:Nat→Prop}
theorem uAc {hs:Bool} {va:D} (hv:qAm hs va):(if hs=true then [32,61,32]++vaX va else []).length≤300003:=by
 rcases hv with ⟨rfl,hv⟩ | ⟨rfl,rfl⟩
 ·have:=rP hv;simp;omega
 ·simp
theorem vAn {m:Bool} {nm:Bs} {ty:D} {hs:Bool} {va:D} (hn:yC nm=true) (ht:gJ 64 ty) (hv:qAm hs va):(gAk m nm ty hs va).length≤400000:=by
 have h1:=eF hn;have h2:=pP ht;have h3:=uAc hv;unfold gAk;cases m <;> simp only [List.length_append,List.length_cons,List.length_nil,if_true,if_false,Bool.false_eq_true] <;> omega
theorem rAs (hN:200≤N) (rr:SmR) {ty va:D} (hn:yC rr.nm=true) (ht:gJ 64 ty) (hv:qAm rr.has va) (pk:PK h) (xt:Dt h V ty (tyc rr.ty)) (xv:Dt h V va (vac rr.va)):∃ h',f129 N (smv rr) h=some (gAk rr.m rr.nm ty rr.has va,h')∧Chg [] h h':=by
 have l1:=eF hn;have l2:=pP ht;have l3:=uAc hv;unfold f129;have o:=vA h (smc rr);have c:=uA h (.row (smc rr) .own);have e1:h.push (.row (yRA (smv rr)) .own)=h.push (.row (smc rr) .own):=rfl;dsimp only;rw [e1];have pk:=pk.chg c;have xt:=Dt.chg c (by simp) xt;have xv:=Dt.chg c (by simp) xv;generalize h.push (.row (smc rr) .own)=H at *;have a2:H.cell (h.next,2)=some (.bool rr.m):=o.cell 2;have a3:H.cell (h.next,3)=some (.str rr.nm):=o.cell 3;have a4:H.cells (h.next,4) 4=some (.agg (tyc rr.ty)):=o.cells (j:=4) (m:=4) (show 4+4≤32 by decide);obtain ⟨H2,e2,c2⟩:=cA2 ht (by omega:100≤N) xt;have o2:=o.chg c2 (by simp);have b3:H2.cell (h.next,3)=some (.str rr.nm):=o2.cell 3;have b8:H2.cell (h.next,8)=some (.bool rr.has):=o2.cell 8;have b11:H2.cells (h.next,11) 15=some (.agg (vac rr.va)):=o2.cells (j:=11) (m:=15) (show 11+15≤32 by decide);have pre:(kA (α:=zH1) (β:=Bs×Heap) (bif rr.m then some ((some (h.next,0),[108,101,116,32,109,117,116,32],()),H) else some ((some (h.next,0),[108,101,116,32],()),H)))=kA (α:=zH1) (some ((some (h.next,0),(if rr.m=true then [108,101,116,32,109,117,116,32] else [108,101,116,32]),()),H)):=by
  cases rr.m <;> rfl
 simp only [Nat.add_zero,Nat.zero_add,a2,bA,kB];rw [pre];have lp:(if rr.m=true then [108,101,116,32,109,117,116,32] else [108,101,116,32]:Bs).length≤8:=by cases rr.m <;> simp
 have hX:gAk rr.m rr.nm ty rr.has va=(if rr.m=true then [108,101,116,32,109,117,116,32] else [108,101,116,32])++rr.nm++[58,32]++tyX 64 ty++(if rr.has=true then [32,61,32]++vaX va else [])++[59]:=rfl;rw [hX];generalize (if rr.m=true then [108,101,116,32,109,117,116,32] else [108,101,116,32]:Bs)=P at *;simp only [aA,fA,a3,bA,qA];rw [tB (by omega)];simp only [bA,qA];rw [tB (by simp;omega)];simp only [bA,qA];rw [a4,yR];show ∃ h',(kA (f36 N N rr.ty H) _)=_∧_;rw [e2,aA,tB (by simp;omega)];have sm:rB (some (.agg (tyc rr.ty))) (.agg [(.int .i64 rr.ty.1),(.str rr.ty.2.1),(.slice rr.ty.2.2.1.a rr.ty.2.2.1.len rr.ty.2.2.1.cap rr.ty.2.2.1.sz),(.slice rr.ty.2.2.2.1.a rr.ty.2.2.2.1.len rr.ty.2.2.2.1.cap rr.ty.2.2.2.1.sz)])=true:=jL _;simp only [bA,qA,sm,b3,a3,eC,cond_true,jC,b8,kB]
 cases hh:rr.has with
 | false=>
  simp only [cond_false,aA,Bool.false_eq_true,if_false,List.append_nil];rw [tB (by simp;omega)];exact ⟨H2,rfl,c.trans c2⟩
 | true=>
  rw [hh] at hv;have hva:mayVa va:=by
   rcases hv with ⟨_,hv⟩ | ⟨hv,_⟩
   ·exact hv
   ·cases hv
  have l4:=rP hva;simp only [cond_true,if_true];rw [tB (by simp;omega)];simp only [bA,qA];rw [b11,pV];obtain ⟨H3,e3,c3⟩:=dA2 hN hva (pk.chg c2) (Dt.chg c2 (by simp) xv);have e3':f131 N (tV rr.va) H2=some (vaX va,H3):=e3;rw [e3',aA,tB (by simp;omega)];simp only [bA,qA,aA];rw [tB (by simp;omega)];simp only [bA,qA];refine ⟨H3,?_,(c.trans c2).trans c3⟩;simp
end
def lfX:D→Bs
 | .t [.s nm,.l ov]=>[39]++nm++(match ov with | []=>[] | _::_=>[58,32,39]++Qb.joinL (txS ov) [32,43,32,39])
 | _=>[]
def tAs (lv:List D):Bs:=match lv with
 | []=>[]
 | _::_=>[60]++Qb.joinL (lv.map lfX) [44,32]++[62]
def pJ:D→Int
 | .t (.i k::_)=>k
 | _=>0
def eA2 (pub:Bool) (nm:Bs) (lv ps:List D) (ty:D):Bs:=(if pub=true then [112,117,98,32] else [])++[102,110,32]++nm++tAs lv++[40]++dY ps++[41]++(if pJ ty=0 then [] else [32,45,62,32]++tyX 64 ty)
section
variable {N:Nat} {h:Heap} {V:Nat→Prop}
theorem uA5 {xs:List Bs} (h:jAw 64 xs):(Qb.joinL xs [32,43,32,39]).length≤2400:=by
 have:=tH (B:=32) (l:=xs) (sep:=[32,43,32,39]) fun x hx=>(tD (h.2 x hx)).2
 exact Nat.le_trans this (Nat.le_trans (Nat.mul_le_mul h.1 (Nat.le_refl _)) (by decide))
theorem uAs {d:D} (h:kR d):(lfX d).length≤2500:=by
 obtain ⟨nm,xs,rfl,hn,hx⟩:=h;have h1:=(tD hn).2;have h2:=uA5 hx
 cases xs with
 | nil=>
  have e:lfX (gE nm (([]:List Bs).map D.s))=[39]++nm++[]:=rfl;rw [e];simp;omega
 | cons y r=>
  have e:lfX (gE nm ((y::r).map D.s))=[39]++nm++([58,32,39]++Qb.joinL (txS ((y::r).map D.s)) [32,43,32,39]):=rfl;rw [e,lJ];simp at h2 ⊢;omega
theorem vAc {lv:List D} (h:jP 64 kR lv):(Qb.joinL (lv.map lfX) [44,32]).length≤170000:=by
 have:=tH (B:=2500) (l:=lv.map lfX) (sep:=[44,32]) fun x hx=>by obtain ⟨d,hd,rfl⟩:=List.mem_map.1 hx;exact uAs (h.2 d hd)
 rw [List.length_map] at this;exact Nat.le_trans this (Nat.le_trans (Nat.mul_le_mul h.1 (Nat.le_refl _)) (by decide))
theorem wAc {lv:List D} (h:jP 64 kR lv):(tAs lv).length≤170002:=by
 have:=vAc h
 cases lv with
 | nil=>simp [tAs]
 | cons y r=>simp only [tAs,List.length_append,List.length_cons,List.length_nil] at this ⊢;omega
theorem vA5 {pub:Bool} {nm:Bs} {lv ps:List D} {ty:D} (hn:yC nm=true) (hlv:jP 64 kR lv) (hps:jP 64 (oJ true) ps) (hty:ty=ty0D∨gJ 64 ty):(eA2 pub nm lv ps ty).length≤700000:=by
 have h1:=eF hn;have h2:=wAc hlv;have h3:=eS hps;have h4:(if pJ ty=0 then [] else [32,45,62,32]++tyX 64 ty:Bs).length≤7000:=by
  rcases hty with rfl | ht
  ·decide
  ·have:=pP ht
   split <;> simp <;> omega
 unfold eA2;cases pub <;> simp only [List.length_append,List.length_cons,List.length_nil,if_true,if_false,Bool.false_eq_true] <;> omega
theorem vAe {h0:Heap} {P:Nat} {lv:List D} (hlv:jP 64 kR lv) {s:SL} (x:Sl h0 V s lv):∀ (M i:Nat) (out:SL) (h:Heap),i≤lv.length→lv.length-i<M→OwV (Fr0 h0) h out 1 (((lv.map lfX).map D.s).take i)→Chg [] h0 h→∃ out' h',uQ N M (some (P,0)) out s (lv.length:Int) (i:Int) h=some (.exit 0,(some (P,0),out',()),h')∧OwV (Fr0 h0) h' out' 1 ((lv.map lfX).map D.s)∧Chg [] h0 h':=by
 have hlen:((lv.map lfX).map D.s).length=lv.length:=by simp
 have hl64:=hlv.1;have key:=dA8 (h0:=h0) (n:=1) (k:=0) (xs:=(lv.map lfX).map D.s) (L:=fun M out i h=>uQ N M (some (P,0)) out s (lv.length:Int) i h) (fin:=fun out=>(some (P,0),out,())) ?_ ?_
 ·intro M i out h hi hM ho hc
  exact key M i out h (by omega) (by omega) ho hc
 ·intro M i hi out h ho hc
  rw [hlen] at hi;show ∃ out' h',uQ N (M+1) (some (P,0)) out s (lv.length:Int) (i:Int) h=uQ N M (some (P,0)) out' s (lv.length:Int) ((i+1:Nat):Int) h'∧_;rw [cV];unfold cS;simp only [aC,hi,decide_true,cond_true];have hm:=hlv.2 _ (List.getElem_mem hi);have x:=x.chg hc (by simp);obtain ⟨r,g,d⟩:=iR.elt x hi (dA1 hm);rw [x.ix hi 2,g,pM];obtain ⟨h5,p5,c5,o5⟩:=iR.park (z:=lfc lf0) rfl h r;have p5':∀ {β:Type} (K:Heap→Option β),tA ((h.push (.row [(.str []),(.slice none 0 0 0)] .own)).store (h.next,0) [(.str r.1),(.slice r.2.1.a r.2.1.len r.2.1.cap r.2.1.sz)]) K=K h5:=p5;rw [p5'];have d5:=Dt.chg c5 (by simp) d;have hfx:lfX lv[i]=(lv.map lfX)[i]'(by simpa using hi):=by rw [List.getElem_map]
  have ih':i<(lv.map lfX).length:=by simpa using hi
  obtain ⟨nm,xs,hd,hn,hxs⟩:=hm;rw [hd] at d5 hfx;obtain ⟨sl,hc1,y1⟩:=oI d5;obtain rfl:=iR.inj (r':=(nm,sl,())) hc1;have a0:h5.cell (h.next,0)=some (.str nm):=o5.cell 0;have a1:h5.cell (h.next,1)=some (.slice sl.a sl.len sl.cap sl.sz):=o5.cell 1;have h1:=(tD hn).2;have h2:=uA5 hxs;have hsl:sl.len=xs.length:=by rw [y1.len,List.length_map]
  simp only [Nat.add_zero,Nat.zero_add,a0,bA,qA];rw [tB (by simp;omega)];simp only [bA,qA,a1,jA]
  cases xs with
  | nil=>
   have z:ltInt 0 (Int.ofNat sl.len)=false:=by rw [hsl];rfl
   simp only [z,cond_false];obtain ⟨s',h',e',o',c'⟩:=qP ih' ho hc c5 (by rw [List.length_map];omega) (y:=[39]++nm) (by rw [← hfx];show _=[39]++nm++[];rw [List.append_nil]);rw [e',eB (by omega)];exact ⟨s',h',rfl,o',c'⟩
  | cons y r=>
   have z:ltInt 0 (Int.ofNat sl.len)=true:=by rw [hsl,ltI,decide_eq_true_eq];show (0:Int)<((r.length+1:Nat):Int);omega
   simp only [z,cond_true];rw [tB (by simp;omega)];simp only [bA,qA];have f:f50 N ⟨sl.a,sl.len,sl.cap,sl.sz⟩ [32,43,32,39] h5=some (Qb.joinL (y::r) [32,43,32,39],h5):=fY y1 (by have:=hxs.1;omega) (by omega);rw [f,aA,tB (by simp;omega)];simp only [bA,qA];obtain ⟨s',h',e',o',c'⟩:=qP ih' ho hc c5 (by rw [List.length_map];omega) (y:=[39]++nm++[58,32,39]++Qb.joinL (y::r) [32,43,32,39]) (by
    rw [← hfx];show _=[39]++nm++([58,32,39]++Qb.joinL (txS ((y::r).map D.s)) [32,43,32,39]);rw [lJ,List.append_assoc])
   rw [e',eB (by omega)];exact ⟨s',h',rfl,o',c'⟩
 ·intro M out h
  rw [hlen];show uQ N (M+1) (some (P,0)) out s (lv.length:Int) (lv.length:Int) h=_;rw [cV];unfold cS;simp only [aC,Nat.lt_irrefl,decide_false,cond_false]
theorem vAs {ty:D} (hty:ty=ty0D∨gJ 64 ty) {r:TyV} (x:Dt h V ty (tyc r)):(ty=ty0D∧iA r.1 0=true∧pJ ty=0)∨(gJ 64 ty∧iA r.1 0=false∧pJ ty≠0):=by
 rcases hty with rfl | ht
 ·obtain ⟨s1,s2,hc,_⟩:=jG.1 (show Dt h V (tyD 0 [] [] []) _ from x)
  rw [(gO 1).inj hc];exact .inl ⟨rfl,rfl,rfl⟩
 ·refine .inr ⟨ht,bAc ht x,?_⟩
  obtain ⟨p,rfl,hp⟩:=ht
  cases p with
  | int=>show (1:Int)≠0;decide
  | bool=>show (2:Int)≠0;decide
  | st=>show (3:Int)≠0;decide
  | ref mu lv t=>
   cases mu
   ·show (4:Int)≠0;decide
   ·show (5:Int)≠0;decide
theorem dAp (b:Bool) (h:Heap):f40 N b h=some (if b=true then [112,117,98,32] else [],h):=by cases b <;> rfl
theorem iAk (hN:200≤N) (rr:FuR) {lv ps:List D} {ty:D} (hn:yC rr.nm=true) (hlv:jP 64 kR lv) (hps:jP 64 (oJ true) ps) (hty:ty=ty0D∨gJ 64 ty) (x1:Sl h V rr.lv lv) (x2:Sl h V rr.ps ps) (xt:Dt h V ty (tyc rr.ty)):∃ h',f20 N (fuv rr) h=some (eA2 rr.pub rr.nm lv ps ty,h')∧Chg [] h h':=by
 have l1:=eF hn;have l2:=wAc hlv;have l2':=vAc hlv;have l3:=eS hps;unfold f20;have o:=vA h (fuc rr);have c:=uA h (.row (fuc rr) .own);have e1:h.push (.row (yRD (fuv rr)) .own)=h.push (.row (fuc rr) .own):=rfl;dsimp only;rw [e1];have x1:=x1.chg c (by simp);have x2:=x2.chg c (by simp);have xt:=Dt.chg c (by simp) xt;generalize h.push (.row (fuc rr) .own)=H at *;have a2:H.cell (h.next,2)=some (.slice rr.lv.a rr.lv.len rr.lv.cap rr.lv.sz):=o.cell 2;obtain ⟨out,H2,e2,ow,c2⟩:=vAe (N:=N) (P:=h.next) hlv x1 N 0 ⟨none,0,0,0⟩ H (Nat.zero_le _) (by have:=hlv.1;omega) (OwV.nil _ _ _ _) (Chg.refl _ _);have e0:Int.ofNat rr.lv.len=((lv.length:Nat):Int):=by rw [x1.len];rfl
 rw [show ((0:Nat):Int)=0 from rfl] at e2;have es:(⟨rr.lv.a,rr.lv.len,rr.lv.cap,rr.lv.sz⟩:SL)=rr.lv:=rfl;simp only [Nat.add_zero,Nat.zero_add,a2,bA,jA];rw [es,e0,e2,mB];dsimp only;have o2:=o.chg c2 (by simp);have b0:H2.cell (h.next,0)=some (.bool rr.pub):=o2.cell 0;have b1:H2.cell (h.next,1)=some (.str rr.nm):=o2.cell 1;have b3:H2.cell (h.next,3)=some (.slice rr.ps.a rr.ps.len rr.ps.cap rr.ps.sz):=o2.cell 3;have lp:(if rr.pub=true then [112,117,98,32] else []:Bs).length≤4:=by cases rr.pub <;> simp
 have hX:eA2 rr.pub rr.nm lv ps ty=(if rr.pub=true then [112,117,98,32] else [])++[102,110,32]++rr.nm++tAs lv++[40]++dY ps++[41]++(if pJ ty=0 then [] else [32,45,62,32]++tyX 64 ty):=rfl;rw [hX];simp only [fA,Nat.zero_add,Nat.add_zero,b0,bA,kB];rw [dAp,aA];generalize (if rr.pub=true then [112,117,98,32] else []:Bs)=P at *;rw [tB (by simp;omega)];simp only [bA,qA,b1];rw [tB (by simp;omega)];simp only [bA,qA,b1,b0,eC,cond_true,jC]
 -- the parameters, the result
 obtain ⟨H3,e3,c3⟩:=bAp (N:=N) hN hps (x2.chg c2 (by simp));have o3:=o2.chg c3 (by simp);have xt3:=Dt.chg c3 (by simp) (Dt.chg c2 (by simp) xt);have d4:H3.cell (h.next,4)=some (.int .i64 rr.ty.1):=o3.cell 4;have d44:H3.cells (h.next,4) 4=some (.agg (tyc rr.ty)):=o3.cells (j:=4) (m:=4) (show 4+4≤10 by decide);have e3':f38 N ⟨rr.ps.a,rr.ps.len,rr.ps.cap,rr.ps.sz⟩ H2=some (dY ps,H3):=e3;have cc:=(c.trans c2).trans c3;have lout:out.len=lv.length:=by rw [ow.sl.len];simp
 have fin:∀ (Q:Bs),Q.length≤600000→∃ h',(bif !iA rr.ty.1 0 then
   (dA (.val zH2) (nB .add Q [32,45,62,32]) fun (x52:zL2)=>
   (dA (.val zE) (H3.cells (h.next,4) 4) fun (x54:zU)=>
   (kA (f36 N N (x54.1,x54.2.1,x54.2.2.1,x54.2.2.2.1,()) H3) fun (x55:zL2) h56=>
   (dA (.val zH2) (nB .add x52 x55) fun (x57:zL2)=>
   some (x57,h56))))) else some (Q,H3))=some (Q++(if pJ ty=0 then [] else [32,45,62,32]++tyX 64 ty),h')∧Chg [] h h':=by
  intro Q hQ;rcases vAs hty xt3 with ⟨_,z,zk⟩ | ⟨ht,z,zk⟩
  ·rw [z,if_pos zk,List.append_nil]
   exact ⟨H3,rfl,cc⟩
  ·obtain ⟨H4,e4,c4⟩:=cA2 ht (by omega:100≤N) xt3
   have l4:=pP ht;rw [z,if_neg zk];simp only [Bool.not_false,cond_true];rw [tB (by simp;omega)];simp only [bA,qA];rw [d44,yR];show ∃ h',(kA (f36 N N rr.ty H3) _)=_∧_;rw [e4,aA,tB (by simp;omega)];simp only [bA,qA];exact ⟨H4,by rw [List.append_assoc],cc.trans c4⟩
 cases lv with
 | nil=>
  have z:ltInt 0 (Int.ofNat out.len)=false:=by rw [lout];rfl
  have lx:tAs []=[]:=rfl;simp only [z,cond_false,lx,List.append_nil];rw [tB (by simp;omega)];simp only [bA,qA,fA,b3,jA];rw [e3',aA,tB (by simp;omega)];simp only [bA,qA];rw [tB (by simp;omega)];simp only [bA,qA,fA,Nat.add_zero,d4,fB];exact fin _ (by simp;omega)
 | cons y r=>
  have z:ltInt 0 (Int.ofNat out.len)=true:=by rw [lout,ltI,decide_eq_true_eq];show (0:Int)<((r.length+1:Nat):Int);omega
  have lx:tAs (y::r)=[60]++Qb.joinL ((y::r).map lfX) [44,32]++[62]:=rfl;have hj:f50 N out [44,32] H2=some (Qb.joinL ((y::r).map lfX) [44,32],H2):=fY ow.sl (by rw [List.length_map];have:=hlv.1;omega) (by omega);rw [lx];generalize Qb.joinL ((y::r).map lfX) [44,32]=J at *;simp only [z,cond_true];rw [tB (by simp;omega)];simp only [bA,qA];rw [hj,aA,tB (by simp;omega)];simp only [bA,qA];rw [tB (by simp;omega)];simp only [bA,qA];rw [tB (by simp;omega)];simp only [bA,qA,fA,b3,jA];rw [e3',aA,tB (by simp;omega)];simp only [bA,qA];rw [tB (by simp;omega)];simp only [bA,qA,fA,Nat.add_zero,d4,fB]
  have:=fin (P++[102,110,32]++rr.nm++[60]++J++[62]++[40]++dY ps++[41]) (by simp;omega)
  have ea:P++[102,110,32]++rr.nm++([60]++J++[62])++[40]++dY ps++[41]=P++[102,110,32]++rr.nm++[60]++J++[62]++[40]++dY ps++[41]:=by simp only [List.append_assoc]
  rw [ea];exact this
end
end Qp
namespace Qp
def smX (bl:Nat→List D→Bs) (o:Nat):D→Bs
 | .t [.i k,_,.b m,.s nm,ty,.b hs,pl,va,co,.l th,.l el]=>
  if k=1 then gAk m nm ty hs va else if k=2 then plX pl++[32,61,32]++vaX va++[59] else if k=3 then vaX va++[59]
  else if k=10 then (if hs=true then [114,101,116,117,114,110,32]++vaX va++[59] else [114,101,116,117,114,110,59])
  else if k=11 then [100,114,111,112,32]++plX pl++[59] else if k=8 then [98,114,101,97,107,59] else if k=9 then [99,111,110,116,105,110,117,101,59]
  else (if k=4 then [105,102,32]++opX co++[32] else if k=5 then [119,104,105,108,101,32]++opX co++[32] else if k=6 then [108,111,111,112,32] else [])++bl o th ++
   (if k=4∧hs=true then [32,101,108,115,101,32]++bl o el else [])
 | _=>[]
def blX:Nat→Nat→List D→Bs
 | 0,_,_=>[]
 | n+1,o,l=>[123,10]++(l.map fun d=>Lib.repeatL [9] (o+1)++smX (blX n) (o+1) d++[10]).flatten++Lib.repeatL [9] o++[125]
section
variable {N:Nat} {h0 h h1 h2:Heap} {A:Nat} {t:Bs} {s:SL} {V:Nat→Prop}
theorem uP {q:Nat×Nat} {n:Nat} (c:Chg [] h0 h) (hq:q.1<h0.next):h.cells q n=h0.cells q n:=by
 have e:h.t.get q.1=h0.t.get q.1:=c.g q.1 hq (by simp);simp only [Heap.cells,Heap.read,Heap.row,e]
theorem mL {x:SL} {xs:List D} (y:Sl h0 V x xs) {i n:Nat} (hi:i<xs.length):(x.at i n).1<h0.next:=by
 have h1:=y.isSome (by omega)
 cases ha:x.a with
 | none=>rw [ha] at h1;cases h1
 | some q=>
  have:=y.lt q.1 (by simp [SL.blk,ha])
  simp only [SL.at,ha];exact this
theorem uAz (p:PQ h0 h A t s):∃ b:Bs,f43 N (some (A,0)) h=some ((b.length:Int),h)∧Lim b t∧(1048576<b.length→∀ x,PQ h0 h A (t++x) s):=by
 obtain ⟨b,p,hs,hA,c,l⟩:=p;exact ⟨b,bAk p,l,fun hb x=>⟨b,p,hs,hA,c,l.over hb x⟩⟩
theorem yAc (hN:200≤N) {rec132 rec42 rec83} {m o:Nat} {l:List D} {T:D→Bs} (ho:o≤900) (hl:l.length≤3000) (ht:∀ x∈l,aW m x) {s1:SL} (x:Sl h0 V s1 l)
  (hF:∀ d∈l,∀ (r:SmV) (h:Heap) (t:Bs) (s:SL),Dt h0 V d (smx r)→PQ h0 h A t s→∃ h',rec83 (some (A,0)) r ((o+1:Nat):Int) h=some ((),h')∧Put h0 h A s h' (t++T d)) :
  ∀ (M i:Nat) (h:Heap) (t:Bs) (s:SL),i≤l.length→l.length-i<M→PQ h0 h A t s→∃ out h',vX N rec132 rec42 rec83 M (some (A,0)) (o:Int) s1 (l.length:Int) (i:Int) h=some (out,(some (A,0),(o:Int),()),h')∧
   ((out=.exit 0∧Put h0 h A s h' (t++((l.drop i).map fun d=>Lib.repeatL [9] (o+1)++T d++[10]).flatten))∨(out=.ret∧∀ y,Put h0 h A s h' (t++((l.drop i).map fun d=>Lib.repeatL [9] (o+1)++T d++[10]).flatten++y))):=by
 intro M
 induction M with
 | zero=>intro i h t s _ hM;omega
 | succ M ih=>
  intro i h t s hi hM p;rw [cA9];unfold lA1;simp only [aC]
  by_cases q:i<l.length
  ·simp only [q,decide_true,cond_true]
   obtain ⟨r,g,d⟩:=(kK m).elt x q (ht _ (List.getElem_mem q));rw [x.ix q 32,uP p.base (mL x q),g,uG];obtain ⟨h5,p5,c5,o5⟩:=(kK m).park (z:=smx (smv (gF 0))) rfl h r;have p5':∀ {β:Type} (K:Heap→Option β),tA ((h.push (.row yZA .own)).store (h.next,0) (yRA r)) K=K h5:=p5;rw [p5'];have pq5:=p.chg c5;obtain ⟨b,eb,lb,hov⟩:=uAz (N:=N) pq5;simp only [fA,Nat.add_zero];rw [eb,aA];have hlt:ltInt 1048576 (b.length:Int)=decide (1048576<b.length):=by
    rw [ltI]
    by_cases h1:1048576<b.length
    ·rw [decide_eq_true h1,decide_eq_true];omega
    ·rw [decide_eq_false h1,decide_eq_false];omega
   rw [hlt]
   by_cases hb:1048576<b.length
   ·simp only [hb,decide_true,cond_true]
    exact ⟨_,h5,rfl,.inr ⟨rfl,fun y=>by rw [List.append_assoc];exact (hov hb _).same.pre c5⟩⟩
   ·simp only [hb,decide_false,cond_false]
    rw [eB (by omega)];obtain ⟨h15,e15,s15,p15,c15,n15⟩:=fAk hN pq5 (k:=o+1) (by omega);rw [e15,aA];have o15:=o5.chg c15 (p.out (Nat.le_refl _));rw [(kK m).cells o15];obtain ⟨h19,e19,s19,p19,c19,n19⟩:=hF _ (List.getElem_mem q) r h15 _ s15 d p15;have e19':rec83 (some (A,0)) (tS r) ((o+1:Nat):Int) h15=some ((),h19):=e19;rw [e19',aA];obtain ⟨h22,e22,s22,p22,c22,n22⟩:=fF hN p19 (xs:=[[10]]) (by simp) (by simp) (n:=1) rfl (row:=[.str [10]]) rfl;rw [e22,aA,eB (by omega)];obtain ⟨out,h',e',y⟩:=ih (i+1) h22 _ s22 q (by omega) p22;refine ⟨out,h',e',?_⟩;have up:∀ {t2:Bs},Put h0 h22 A s22 h' t2→Put h0 h A s h' t2:=fun y=>Put.pre c5 (Put.trans' p15 c15 n15 (Put.trans' p19 c19 n19 (Put.trans' p22 c22 n22 y)));have hd:(l.drop i)=l[i]::l.drop (i+1):=List.drop_eq_getElem_cons q;rcases y with ⟨ye,y⟩ | ⟨ye,y⟩
    ·refine .inl ⟨ye,?_⟩
     have:=up y
     rw [hd,List.map_cons,List.flatten_cons];simpa using this
    ·refine .inr ⟨ye,fun z=>?_⟩
     have:=up (y z)
     rw [hd,List.map_cons,List.flatten_cons];simpa using this
  ·simp only [q,decide_false,cond_false]
   have:l.drop i=[]:=List.drop_eq_nil_of_le (by omega)
   rw [this];exact ⟨_,h,rfl,.inl ⟨rfl,by simpa using p.same⟩⟩
theorem wAs (hN:200≤N) {rec132 rec42 rec83} {o:Nat} {k a:Int} {mu hs:Bool} {nm:Bs} {ty pl va co:D} {th el:List D} (ti:isTy 65 ty∧isLf pl∧aAf va∧isOp co) {r:SmV} (pk:PK h0) (x:Dt h0 V (smT k a mu nm ty hs pl va co th el) (smx r))
  (hk:(k=4∧oD co)∨(k=5∧oD co)∨k=6∨k=7) {bl:List D→Bs}
  (hb:∀ (l:List D) (s1:SL) (h:Heap) (t:Bs) (s:SL),(l=th∨l=el)→Sl h0 V s1 l→PQ h0 h A t s→∃ h',rec42 (some (A,0)) s1 (o:Int) h=some ((),h')∧Put h0 h A s h' (t++bl l)) (p:PQ h0 h A t s) :
  ∃ h',jAc N rec132 rec42 rec83 (some (A,0)) r (o:Int) h=some ((),h')∧Put h0 h A s h' (t++((if k=4 then [105,102,32]++opX co++[32] else if k=5 then [119,104,105,108,101,32]++opX co++[32] else if k=6 then [108,111,111,112,32] else [])++bl th ++
   (if k=4∧hs=true then [32,101,108,115,101,32]++bl el else []))):=by
 obtain ⟨t1,t2,t3,t4⟩:=ti;obtain ⟨rt,rp,rv,ro,s1,s2,hc,x1,x2,x3,x4,x5,x6⟩:=rQ t1 t2 t3 t4 x;obtain ⟨rr,hrr⟩:∃ rr:SmR,rr=⟨k,a,mu,nm,rt,hs,rp,rv,ro,s1,s2⟩:=⟨_,rfl⟩;rw [← hrr] at hc;have hr:r=smv rr:=(kK 1).inj hc;subst hr;have o1:=vA h (smc rr);have c1:=uA h (.row (smc rr) .own);have e1:h.push (.row (yRA (smv rr)) .own)=h.push (.row (smc rr) .own):=rfl;have hk0:rr.k=k:=by rw [hrr]
 have hhs:rr.has=hs:=by rw [hrr]
 have hth:rr.th=s1:=by rw [hrr]
 have hel:rr.el=s2:=by rw [hrr]
 have hco:rr.co=ro:=by rw [hrr]
 unfold jAc;dsimp only;rw [e1];have p1:=p.chg c1;have out:h.next ∉ A::s.blk.toList:=p.out (Nat.le_refl _);generalize h.push (.row (smc rr) .own)=H at *;have rd0:∀ {G:Heap},G.own h.next (smc rr)→G.cell (h.next,0)=some (.int .i64 k):=fun o=>by rw [← hk0];exact o.cell 0
 have rd8:∀ {G:Heap},G.own h.next (smc rr)→G.cell (h.next,8)=some (.bool hs):=fun o=>by rw [← hhs];exact o.cell 8
 have rd30:∀ {G:Heap},G.own h.next (smc rr)→G.cell (h.next,30)=some (.slice s1.a s1.len s1.cap s1.sz):=fun o=>by rw [← hth];exact o.cell 30
 have rd31:∀ {G:Heap},G.own h.next (smc rr)→G.cell (h.next,31)=some (.slice s2.a s2.len s2.cap s2.sz):=fun o=>by rw [← hel];exact o.cell 31
 have rd26:∀ {G:Heap},G.own h.next (smc rr)→G.cells (h.next,26) 4=some (.agg (opc ro)):=fun o=>by rw [← hco];exact o.cells (j:=26) (m:=4) (show 26+4≤32 by decide)
 simp only [Nat.add_zero,Nat.zero_add,rd0 o1,bA,fB]
 -- the block, and what comes behind it
 have tail:∀ (H2:Heap) (t2:Bs) (s2':SL),H2.own h.next (smc rr)→PQ h0 H2 A t2 s2'→Chg (A::s.blk.toList) h H2→(∀ B,s2'.blk=some B→s.blk=some B∨h.next≤B)→(∀ B,s2'.blk=some B→B≠h.next)→∃ h',(kA (rec42 (some (A,0)) s1 (o:Int) H2) fun (x11:Unit) h12=>
   (dA (.val zJ2) (h12.cell (h.next,0)) fun (x13:Int)=>
   (bif iA x13 4 then
    (dA (.val zI2) (h12.cell (h.next,8)) fun (x15:Bool)=>
    (bif x15 then
    (kA (f39 N (some (A,0)) ⟨(some (h12.next,0)),1,1,1⟩ (h12.push (.row [(.str [32,101,108,115,101,32])] .own))) fun (x17:Unit) h18=>
    (dA (.val zG2) (h18.cell (h.next,31)) fun (x19:SL)=>
    (kA (rec42 (some (A,0)) x19 (o:Int) h18) fun (x20:Unit) h21=>
    some ((),h21))))
    else
    some ((),h12)))
   else
    some ((),h12))))=some ((),h')∧Put h0 h A s h' (t2++(bl th++(if k=4∧hs=true then [32,101,108,115,101,32]++bl el else []))):=by
  intro H2 t2 s2' oH p2 c2 n2 ne2;obtain ⟨H3,e3,s3,p3,c3,n3⟩:=hb th s1 H2 t2 s2' (.inl rfl) x5 p2;rw [e3,aA];have o3:=oH.chg c3 (fun hm=>by
   rcases List.mem_cons.1 hm with e | hm
   ·have:=p.lt.1;omega
   ·exact ne2 _ (tP hm) rfl)
  have hlt2:h.next<H2.next:=oH.2;have ne3:∀ B,s3.blk=some B→B≠h.next:=fun B hB=>by
   rcases n3 B hB with h1 | h1
   ·exact ne2 B h1
   ·omega
  rw [rd0 o3];simp only [bA,fB]
  by_cases k4:k=4
  ·subst k4
   simp only [show iA 4 4=true from rfl,cond_true,rd8 o3,bA,kB]
   cases hs with
   | false=>
    simp only [cond_false,Bool.false_eq_true,and_false,if_false,List.append_nil];exact ⟨H3,rfl,Put.trans' p2 c2 n2 ⟨s3,p3,c3,n3⟩⟩
   | true=>
    obtain ⟨H4,e4,s4,p4,c4,n4⟩:=fF hN p3 (xs:=[[32,101,108,115,101,32]]) (by simp) (by simp) (n:=1) rfl (row:=[.str [32,101,108,115,101,32]]) rfl;simp only [cond_true,and_self,if_true];rw [e4,aA];have o4:=o3.chg c4 (fun hm=>by
     rcases List.mem_cons.1 hm with e | hm
     ·have:=p.lt.1;omega
     ·exact ne3 _ (tP hm) rfl)
    rw [rd31 o4];simp only [bA,jA];obtain ⟨H5,e5,y5⟩:=hb el s2 H4 _ s4 (.inr rfl) x6 p4;have e5':rec42 (some (A,0)) ⟨s2.a,s2.len,s2.cap,s2.sz⟩ (o:Int) H4=some ((),H5):=e5;rw [e5',aA];refine ⟨H5,rfl,Put.trans' p2 c2 n2 (Put.trans' p3 c3 n3 (Put.trans' p4 c4 n4 ?_))⟩;simpa using y5
  ·have z:iA k 4=false:=by rw [eqI];exact decide_eq_false k4
   rw [z,cond_false,if_neg (fun hq=>k4 hq.1),List.append_nil];exact ⟨H3,rfl,Put.trans' p2 c2 n2 ⟨s3,p3,c3,n3⟩⟩
 have hbl:∀ B,s.blk=some B→B≠h.next:=fun B hB=>by have:=p.lt.2 B hB;omega
 have nS:∀ {H2:Heap} {s2':SL},H.next≤H2.next→(∀ B,s2'.blk=some B→s.blk=some B∨H.next≤B)→(∀ B,s2'.blk=some B→s.blk=some B∨h.next≤B)∧∀ B,s2'.blk=some B→B≠h.next:=fun hle n=>⟨fun B hB=>(n B hB).imp id fun h1=>Nat.le_trans c1.next h1,fun B hB=>by
  have:=o1.2
  rcases n B hB with h1 | h1
  ·exact hbl B h1
  ·omega⟩
 rcases hk with ⟨rfl,hop⟩ | ⟨rfl,hop⟩ | rfl | rfl
 ·have lo:=iH hop
  obtain ⟨H1,e1,c1'⟩:=vM (N:=N) hop (pk.chg p1.base) (Dt.chg p1.base (by simp) x4);simp only [show iA 4 4=true from rfl,cond_true];rw [rd26 o1,iK];show ∃ h',(kA (f177 N ro H) _)=_∧_;rw [e1,aA];obtain ⟨H2,e2,sA,p2,c2,n2⟩:=fF hN (p1.chg c1') (xs:=[[105,102,32],opX co,[32]]) (by intro w hw;simp at hw;rcases hw with rfl | rfl | rfl;decide;omega;decide) (by simp) (n:=3) rfl (row:=[.str [105,102,32],.str (opX co),.str [32]]) rfl;rw [e2,aA];have o2:=(o1.chg c1' (by simp)).chg c2 out;rw [rd30 o2];simp only [bA,jA];obtain ⟨q1,q2⟩:=nS (H2:=H2) (s2':=sA) (Nat.le_trans c1'.next c2.next) fun B hB=>(n2 B hB).imp id fun h1=>Nat.le_trans c1'.next h1;obtain ⟨h',e',y⟩:=tail H2 _ sA o2 p2 (((c1.trans c1').mono (by simp)).trans c2) q1 q2;refine ⟨h',e',?_⟩;simpa using y
 ·have lo:=iH hop
  obtain ⟨H1,e1,c1'⟩:=vM (N:=N) hop (pk.chg p1.base) (Dt.chg p1.base (by simp) x4);simp only [show iA 5 4=false from rfl,show iA 5 5=true from rfl,cond_true,cond_false];rw [rd26 o1,iK];show ∃ h',(kA (f177 N ro H) _)=_∧_;rw [e1,aA];obtain ⟨H2,e2,sA,p2,c2,n2⟩:=fF hN (p1.chg c1') (xs:=[[119,104,105,108,101,32],opX co,[32]]) (by intro w hw;simp at hw;rcases hw with rfl | rfl | rfl;decide;omega;decide) (by simp) (n:=3) rfl (row:=[.str [119,104,105,108,101,32],.str (opX co),.str [32]]) rfl;rw [e2,aA];have o2:=(o1.chg c1' (by simp)).chg c2 out;rw [rd30 o2];simp only [bA,jA];obtain ⟨q1,q2⟩:=nS (H2:=H2) (s2':=sA) (Nat.le_trans c1'.next c2.next) fun B hB=>(n2 B hB).imp id fun h1=>Nat.le_trans c1'.next h1;obtain ⟨h',e',y⟩:=tail H2 _ sA o2 p2 (((c1.trans c1').mono (by simp)).trans c2) q1 q2;refine ⟨h',e',?_⟩;simpa using y
 ·simp only [show iA 6 4=false from rfl,show iA 6 5=false from rfl,show iA 6 6=true from rfl,cond_true,cond_false]
  obtain ⟨H2,e2,sA,p2,c2,n2⟩:=fF hN p1 (xs:=[[108,111,111,112,32]]) (by simp) (by simp) (n:=1) rfl (row:=[.str [108,111,111,112,32]]) rfl;rw [e2,aA];have o2:=o1.chg c2 out;rw [rd30 o2];simp only [bA,jA];obtain ⟨q1,q2⟩:=nS (H2:=H2) (s2':=sA) c2.next n2;obtain ⟨h',e',y⟩:=tail H2 _ sA o2 p2 ((c1.mono (by simp)).trans c2) q1 q2;refine ⟨h',e',?_⟩;simpa using y
 ·simp only [show iA 7 4=false from rfl,show iA 7 5=false from rfl,show iA 7 6=false from rfl,cond_false]
  rw [rd30 o1];simp only [bA,jA];obtain ⟨q1,q2⟩:=nS (H2:=H) (s2':=s) (Nat.le_refl _) fun B hB=>.inl hB;obtain ⟨h',e',y⟩:=tail H t s o1 p1 (c1.mono (by simp)) q1 q2;refine ⟨h',e',?_⟩;simpa using y
end
end Qp
namespace Qp
section
variable {N:Nat} {h0 h h1 h2:Heap} {A:Nat} {t:Bs} {s:SL} {V:Nat→Prop}
theorem vAz (x:Bs):[x].flatten=x:=by simp
theorem wAz (hN:200≤N) {rec132 rec42 rec83} {n m o:Nat} {d:D} (hd:lP (n+1) d) (ti:aW (m+1) d) {r:SmV} (pk:PK h0) (x:Dt h0 V d (smx r)) {bl:Nat→List D→Bs}
  (hb:∀ (h:Heap) (t:Bs) (s:SL),(pJ d=4∨pJ d=5∨pJ d=6∨pJ d=7)→PQ h0 h A t s→∃ h',rec132 (some (A,0)) r (o:Int) h=some ((),h')∧Put h0 h A s h' (t++smX bl o d)) (p:PQ h0 h A t s) :
  ∃ h',eAn N rec132 rec42 rec83 (some (A,0)) r (o:Int) h=some ((),h')∧Put h0 h A s h' (t++smX bl o d):=by
 obtain ⟨k,a,mu,nm,ty,hs,pl,va,co,th,el,rfl,hth,hel,hk⟩:=hd;obtain ⟨t1,t2,t3,t4,_⟩:=bA1 ti;obtain ⟨rt,rp,rv,ro,s1,s2,hc,x1,x2,x3,x4,x5,x6⟩:=rQ t1 t2 t3 t4 x;obtain ⟨rr,hrr⟩:∃ rr:SmR,rr=⟨k,a,mu,nm,rt,hs,rp,rv,ro,s1,s2⟩:=⟨_,rfl⟩;rw [← hrr] at hc;have hr:r=smv rr:=(kK 1).inj hc;subst hr;unfold eAn;have o1:=vA h (smc rr);have c1:=uA h (.row (smc rr) .own);have e1:h.push (.row (yRA (smv rr)) .own)=h.push (.row (smc rr) .own):=rfl;dsimp only;rw [e1];have p1:=p.chg c1;generalize h.push (.row (smc rr) .own)=H at *;have pkH:=pk.chg p1.base;have y1:=Dt.chg p1.base (by simp) x1;have y2:=Dt.chg p1.base (by simp) x2;have y3:=Dt.chg p1.base (by simp) x3;have rd0:H.cell (h.next,0)=some (.int .i64 k):=by rw [show k=rr.k by rw [hrr]];exact o1.cell 0
 have rd8:H.cell (h.next,8)=some (.bool hs):=by rw [show hs=rr.has by rw [hrr]];exact o1.cell 8
 have rdA:H.cells (h.next,0) 32=some (.agg (smx (smv rr))):=o1.cells (j:=0) (m:=32) (Nat.le_refl _);have rdP:H.cells (h.next,9) 2=some (.agg (lfc rp)):=by rw [show rp=rr.pl by rw [hrr]];exact o1.cells (j:=9) (m:=2) (show 9+2≤32 by decide)
 have rdV:∀ {G:Heap},G.own h.next (smc rr)→G.cells (h.next,11) 15=some (.agg (vac rv)):=fun o=>by rw [show rv=rr.va by rw [hrr]];exact o.cells (j:=11) (m:=15) (show 11+15≤32 by decide)
 simp only [Nat.add_zero,Nat.zero_add,rd0,bA,fB];have one:∀ (w:Bs),w.length≤900000→∃ h',(kA (f39 N (some (A,0)) ⟨(some (H.next,0)),1,1,1⟩ (H.push (.row [.str w] .own))) fun (x2:Unit) h3=>some ((),h3))=some ((),h')∧Put h0 h A s h' (t++w):=fun w hw=>by
  obtain ⟨H2,e2,y⟩:=fF hN p1 (xs:=[w]) (by intro z hz;rw [List.mem_singleton.1 hz];exact hw) (by simp) (n:=1) rfl (row:=[.str w]) rfl;rw [e2,aA];refine ⟨H2,rfl,Put.pre c1 ?_⟩;rw [vAz] at y;exact y
 have big:(pJ (smT k a mu nm ty hs pl va co th el)=4∨pJ (smT k a mu nm ty hs pl va co th el)=5∨pJ (smT k a mu nm ty hs pl va co th el)=6∨pJ (smT k a mu nm ty hs pl va co th el)=7)→
   ∃ h',(dA (.val yS) (H.cells (h.next,0) 32) fun (x53:SmV)=>(kA (rec132 (some (A,0)) (tS x53) (o:Int) H) fun (x54:Unit) h55=>some ((),h55)))=some ((),h')∧Put h0 h A s h' (t++smX bl o (smT k a mu nm ty hs pl va co th el)):=fun hkk=>by
  obtain ⟨H2,e2,y⟩:=hb H t s hkk p1;rw [rdA,uG];have e2':rec132 (some (A,0)) (tS (smv rr)) (o:Int) H=some ((),H2):=e2;rw [e2',aA];exact ⟨H2,rfl,Put.pre c1 y⟩
 cases hk with
 | let_ hn ht hv=>
  have hX:smX bl o (smT 1 a mu nm ty hs pl0 va op0 [] [])=gAk mu nm ty hs va:=rfl;have lx:=vAn (m:=mu) hn ht hv;obtain ⟨H2,e2,c2⟩:=rAs hN rr (ty:=ty) (va:=va) (by rw [hrr];exact hn) ht (by rw [hrr];exact hv) pkH (by rw [hrr];exact y1) (by rw [hrr];exact y3);rw [show gAk rr.m rr.nm ty rr.has va=gAk mu nm ty hs va by rw [hrr]] at e2;simp only [show iA 1 1=true from rfl,cond_true];rw [rdA,uG];have e2':f129 N (tS (smv rr)) H=some (gAk mu nm ty hs va,H2):=e2;rw [e2',aA];obtain ⟨H3,e3,y⟩:=fF hN (p1.chg c2) (xs:=[gAk mu nm ty hs va]) (by intro z hz;rw [List.mem_singleton.1 hz];omega) (by simp) (n:=1) rfl (row:=[.str (gAk mu nm ty hs va)]) rfl;rw [e3,aA,hX];refine ⟨H3,rfl,Put.pre c1 (Put.pre c2 ?_)⟩;rw [vAz] at y;exact y
 | @set nm' xs va hn hx hv=>
  have hp:qL (gE nm' (xs.map D.s)):=⟨nm',xs,rfl,hn,hx⟩;have hX:smX bl o (smT 2 a false [] ty0D false (gE nm' (xs.map D.s)) va op0 [] [])=plX (gE nm' (xs.map D.s))++[32,61,32]++vaX va++[59]:=rfl;have l1:=uM hp;have l2:=rP hv;obtain ⟨H2,e2,c2⟩:=kV (N:=N) hp y2;obtain ⟨H3,e3,c3⟩:=dA2 hN hv (pkH.chg c2) (Dt.chg c2 (by simp) y3);simp only [show iA 2 1=false from rfl,show iA 2 2=true from rfl,cond_true,cond_false];have o2:=o1.chg c2 (by simp);rw [rdP,pM,e2,aA,rdV o2,pV];have e3':f131 N (tV rv) H2=some (vaX va,H3):=e3;rw [e3',aA];obtain ⟨H4,e4,y⟩:=fF hN ((p1.chg c2).chg c3) (xs:=[plX (gE nm' (xs.map D.s)),[32,61,32],vaX va,[59]]) (by intro w hw;simp at hw;rcases hw with rfl | rfl | rfl | rfl;omega;decide;omega;decide) (by simp) (n:=4) rfl (row:=[.str (plX (gE nm' (xs.map D.s))),.str [32,61,32],.str (vaX va),.str [59]]) rfl;rw [e4,aA];have sv:rB (some (.agg (vac rv))) (.agg (yRB rv))=true:=jL _;have sp:rB (some (.agg (lfc rp))) (.agg [(.str rp.1),(.slice rp.2.1.a rp.2.1.len rp.2.1.cap rp.2.1.sz)])=true:=jL _;simp only [rdP,rdV o1,rdV o2,sv,sp,cond_true,jC];refine ⟨H4,rfl,Put.pre c1 (Put.pre c2 (Put.pre c3 ?_))⟩;rw [hX];simpa using y
 | @call nm' ag hn hag=>
  have hv:mayVa (vaD 6 op0 op0 0 pl0 nm' [] ag):=mayVa.call hn hag;have hX:smX bl o (smT 3 a false [] ty0D false pl0 (vaD 6 op0 op0 0 pl0 nm' [] ag) op0 [] [])=vaX (vaD 6 op0 op0 0 pl0 nm' [] ag)++[59]:=rfl;have l2:=rP hv;obtain ⟨H3,e3,c3⟩:=dA2 hN hv pkH y3;simp only [show iA 3 1=false from rfl,show iA 3 2=false from rfl,show iA 3 3=true from rfl,cond_true,cond_false];rw [rdV o1,pV];have e3':f131 N (tV rv) H=some (vaX (vaD 6 op0 op0 0 pl0 nm' [] ag),H3):=e3;rw [e3',aA];obtain ⟨H4,e4,y⟩:=fF hN (p1.chg c3) (xs:=[vaX (vaD 6 op0 op0 0 pl0 nm' [] ag),[59]]) (by intro w hw;simp at hw;rcases hw with rfl | rfl;omega;decide) (by simp) (n:=2) rfl (row:=[.str (vaX (vaD 6 op0 op0 0 pl0 nm' [] ag)),.str [59]]) rfl;rw [e4,aA];refine ⟨H4,rfl,Put.pre c1 (Put.pre c3 ?_)⟩;rw [hX];simpa using y
 | if_ h0' hco he=>
  simp only [show iA 4 1=false from rfl,show iA 4 2=false from rfl,show iA 4 3=false from rfl,show iA 4 10=false from rfl,show iA 4 11=false from rfl,show iA 4 8=false from rfl,show iA 4 9=false from rfl,cond_false];exact big (.inl rfl)
 | while_ h0' hco=>
  simp only [show iA 5 1=false from rfl,show iA 5 2=false from rfl,show iA 5 3=false from rfl,show iA 5 10=false from rfl,show iA 5 11=false from rfl,show iA 5 8=false from rfl,show iA 5 9=false from rfl,cond_false];exact big (.inr (.inl rfl))
 | loop h0'=>
  simp only [show iA 6 1=false from rfl,show iA 6 2=false from rfl,show iA 6 3=false from rfl,show iA 6 10=false from rfl,show iA 6 11=false from rfl,show iA 6 8=false from rfl,show iA 6 9=false from rfl,cond_false];exact big (.inr (.inr (.inl rfl)))
 | block h0'=>
  simp only [show iA 7 1=false from rfl,show iA 7 2=false from rfl,show iA 7 3=false from rfl,show iA 7 10=false from rfl,show iA 7 11=false from rfl,show iA 7 8=false from rfl,show iA 7 9=false from rfl,cond_false];exact big (.inr (.inr (.inr rfl)))
 | break_=>
  simp only [show iA 8 1=false from rfl,show iA 8 2=false from rfl,show iA 8 3=false from rfl,show iA 8 10=false from rfl,show iA 8 11=false from rfl,show iA 8 8=true from rfl,cond_false,cond_true];exact one [98,114,101,97,107,59] (by decide)
 | cont=>
  simp only [show iA 9 1=false from rfl,show iA 9 2=false from rfl,show iA 9 3=false from rfl,show iA 9 10=false from rfl,show iA 9 11=false from rfl,show iA 9 8=false from rfl,show iA 9 9=true from rfl,cond_false,cond_true];exact one [99,111,110,116,105,110,117,101,59] (by decide)
 | ret hv=>
  simp only [show iA 10 1=false from rfl,show iA 10 2=false from rfl,show iA 10 3=false from rfl,show iA 10 10=true from rfl,cond_false,cond_true,rd8,bA,kB];rcases hv with ⟨rfl,hv⟩ | ⟨rfl,rfl⟩
  ·have hX:smX bl o (smT 10 a false [] ty0D true pl0 va op0 [] [])=[114,101,116,117,114,110,32]++vaX va++[59]:=rfl
   have l2:=rP hv;obtain ⟨H3,e3,c3⟩:=dA2 hN hv pkH y3;simp only [cond_true];rw [rdV o1,pV];have e3':f131 N (tV rv) H=some (vaX va,H3):=e3;rw [e3',aA];obtain ⟨H4,e4,y⟩:=fF hN (p1.chg c3) (xs:=[[114,101,116,117,114,110,32],vaX va,[59]]) (by intro w hw;simp at hw;rcases hw with rfl | rfl | rfl;decide;omega;decide) (by simp) (n:=3) rfl (row:=[.str [114,101,116,117,114,110,32],.str (vaX va),.str [59]]) rfl;rw [e4,aA];refine ⟨H4,rfl,Put.pre c1 (Put.pre c3 ?_)⟩;rw [hX];simpa using y
  ·simp only [cond_false]
   exact one [114,101,116,117,114,110,59] (by decide)
 | drop hp=>
  have hX:smX bl o (smT 11 a false [] ty0D false pl va00 op0 [] [])=[100,114,111,112,32]++plX pl++[59]:=rfl;have l1:=uM hp;obtain ⟨H2,e2,c2⟩:=kV (N:=N) hp y2;simp only [show iA 11 1=false from rfl,show iA 11 2=false from rfl,show iA 11 3=false from rfl,show iA 11 10=false from rfl,show iA 11 11=true from rfl,cond_true,cond_false];rw [rdP,pM,e2,aA];obtain ⟨H4,e4,y⟩:=fF hN (p1.chg c2) (xs:=[[100,114,111,112,32],plX pl,[59]]) (by intro w hw;simp at hw;rcases hw with rfl | rfl | rfl;decide;omega;decide) (by simp) (n:=3) rfl (row:=[.str [100,114,111,112,32],.str (plX pl),.str [59]]) rfl;rw [e4,aA];refine ⟨H4,rfl,Put.pre c1 (Put.pre c2 ?_)⟩;rw [hX];simpa using y
end
end Qp
namespace Qp
theorem yAs {n:Nat} {d:D} (hd:lP (n+1) d) (hk:pJ d=4∨pJ d=5∨pJ d=6∨pJ d=7):∃ (k a:Int) (mu:Bool) (nm:Bs) (ty:D) (hs:Bool) (pl va co:D) (th el:List D),d=smT k a mu nm ty hs pl va co th el∧thD d=th∧elD d=el∧((k=4∧oD co)∨(k=5∧oD co)∨k=6∨k=7):=by
 obtain ⟨k,a,mu,nm,ty,hs,pl,va,co,th,el,rfl,_,_,h⟩:=hd;refine ⟨k,a,mu,nm,ty,hs,pl,va,co,th,el,rfl,rfl,rfl,?_⟩;have hk':k=4∨k=5∨k=6∨k=7:=hk
 cases h with
 | if_ _ hc _=>exact .inl ⟨rfl,hc⟩
 | while_ _ hc=>exact .inr (.inl ⟨rfl,hc⟩)
 | loop _=>exact .inr (.inr (.inl rfl))
 | block _=>exact .inr (.inr (.inr rfl))
 | _=>omega
theorem aAt {bl:Nat→List D→Bs} {o:Nat} {k a:Int} {mu:Bool} {nm:Bs} {ty:D} {hs:Bool} {pl va co:D} {th el:List D} (hk:k=4∨k=5∨k=6∨k=7):smX bl o (smT k a mu nm ty hs pl va co th el)=(if k=4 then [105,102,32]++opX co++[32] else if k=5 then [119,104,105,108,101,32]++opX co++[32] else if k=6 then [108,111,111,112,32] else [])++bl o th++(if k=4∧hs=true then [32,101,108,115,101,32]++bl o el else []):=by
 rcases hk with rfl | rfl | rfl | rfl <;> rfl
section
variable {N:Nat} {h0 h h1 h2:Heap} {A:Nat} {t:Bs} {s:SL} {V:Nat→Prop}
theorem yAz (hN:3001≤N) (pk:PK h0):∀ (j M o:Nat) (l:List D) (s1:SL) (h:Heap) (t:Bs) (s:SL),3 * j+1≤M→j+o≤500→(∀ x∈l,lP j x)→(∀ x∈l,aW (j+1) x)→l.length≤3000→Sl h0 V s1 l→PQ h0 h A t s→
  ∃ h',f42 N M (some (A,0)) s1 (o:Int) h=some ((),h')∧Put h0 h A s h' (t++blX (j+1) o l):=by
 intro j
 induction j with
 | zero=>
  intro M o l s1 h t s hM ho hm ti hl x p;obtain ⟨M,rfl⟩:∃ m,M=m+1:=⟨M-1,by omega⟩;have hnil:l=[]:=by
   cases l with
   | nil=>rfl
   | cons y r=>exact absurd (hm y List.mem_cons_self) (by simp [lP])
  subst hnil;rw [kAc];unfold dAn;obtain ⟨H1,e1,sa,p1,c1,n1⟩:=fF (N:=N) (by omega) p (xs:=[[123,10]]) (by simp) (by simp) (n:=1) rfl (row:=[.str [123,10]]) rfl;dsimp only;rw [e1,aA];have hlen:Int.ofNat s1.len=0:=by rw [x.len];rfl
  obtain ⟨out,H2,e2,y⟩:=yAc (N:=N) (rec132:=f132 N M) (rec42:=f42 N M) (rec83:=f83 N M) (by omega) (o:=o) (T:=fun _=>[]) (by omega) hl (m:=1) (fun z hz=>by cases hz) x (fun d hd=>by cases hd) N 0 H1 _ sa (Nat.le_refl _) (by simp;omega) p1;have e2':vX N (f132 N M) (f42 N M) (f83 N M) N (some (A,0)) (o:Int) s1 (Int.ofNat s1.len) 0 H1=some (out,(some (A,0),(o:Int),()),H2):=by rw [hlen];exact e2
  rw [e2',mB];dsimp only;rcases y with ⟨rfl,sb,p2,c2,n2⟩ | ⟨rfl,y⟩
  ·simp only [show bD (.exit 0) (.exit 0)=true from rfl,cond_true]
   obtain ⟨H3,e3,sc,p3,c3,n3⟩:=fAk (N:=N) (by omega) p2 (k:=o) (by omega);rw [e3,aA];obtain ⟨H4,e4,y4⟩:=fF (N:=N) (by omega) p3 (xs:=[[125]]) (by simp) (by simp) (n:=1) rfl (row:=[.str [125]]) rfl;rw [e4,aA];refine ⟨H4,rfl,Put.trans' p1 c1 n1 (Put.trans' p2 c2 n2 (Put.trans' p3 c3 n3 ?_))⟩;simpa [blX] using y4
  ·simp only [show bD .ret (.exit 0)=false from rfl,cond_false]
   refine ⟨H2,rfl,Put.trans' p1 c1 n1 ?_⟩
   have:=y (Lib.repeatL [9] o++[125])
   simpa [blX] using this
 | succ j ih=>
  intro M o l s1 h t s hM ho hm ti hl x p;obtain ⟨M,rfl⟩:∃ m,M=m+1+1+1:=⟨M-3,by omega⟩;rw [kAc];unfold dAn;obtain ⟨H1,e1,sa,p1,c1,n1⟩:=fF (N:=N) (by omega) p (xs:=[[123,10]]) (by simp) (by simp) (n:=1) rfl (row:=[.str [123,10]]) rfl;dsimp only;rw [e1,aA];have hlen:Int.ofNat s1.len=((l.length:Nat):Int):=by rw [x.len];rfl
  obtain ⟨out,H2,e2,y⟩:=yAc (N:=N) (rec132:=f132 N (M+1+1)) (rec42:=f42 N (M+1+1)) (rec83:=f83 N (M+1+1)) (by omega) (o:=o) (T:=smX (blX (j+1)) (o+1)) (by omega) hl ti x (fun d hd r h t s dd pp=>by
   have hmd:=hm d hd;have tid:=ti d hd;obtain ⟨h',e',y'⟩:=wAz (N:=N) (rec132:=f132 N (M+1)) (rec42:=f42 N (M+1)) (rec83:=f83 N (M+1)) (o:=o+1) (by omega) hmd tid pk dd (bl:=blX (j+1)) (fun h t s hk pp=>by
    obtain ⟨k,a,mu,nm,ty,hs,pl,va,co,th,el,hdd,hth,hel,hkk⟩:=yAs hmd hk;have t4:isTy 65 ty∧isLf pl∧aAf va∧isOp co:=by
     rw [hdd] at tid;obtain ⟨q1,q2,q3,q4,_⟩:=bA1 tid;exact ⟨q1,q2,q3,q4⟩
    have hk2:k=4∨k=5∨k=6∨k=7:=by
     rcases hkk with ⟨h1,_⟩ | ⟨h1,_⟩ | h1 | h1
     ·exact .inl h1
     ·exact .inr (.inl h1)
     ·exact .inr (.inr (.inl h1))
     ·exact .inr (.inr (.inr h1))
    rw [gAj];have key:=wAs (N:=N) (rec132:=f132 N M) (rec42:=f42 N M) (rec83:=f83 N M) (o:=o+1) (by omega) t4 pk (by rw [← hdd];exact dd) hkk (bl:=blX (j+1) (o+1)) (fun l2 s2 h t s hl2 x2 p2=>by
     have hl3:l2=thD d∨l2=elD d:=by rw [hth,hel];exact hl2
     obtain ⟨q1,q2,q3⟩:=uA8 hmd tid hl3;exact ih M (o+1) l2 s2 h t s (by omega) (by omega) q1 q2 q3 x2 p2) pp
    obtain ⟨h',e',y'⟩:=key;refine ⟨h',e',?_⟩;rw [hdd,aAt hk2];exact y') pp
   rw [fAn];exact ⟨h',e',y'⟩) N 0 H1 _ sa (Nat.zero_le _) (by omega) p1
  have e2':vX N (f132 N (M+1+1)) (f42 N (M+1+1)) (f83 N (M+1+1)) N (some (A,0)) (o:Int) s1 (Int.ofNat s1.len) 0 H1=some (out,(some (A,0),(o:Int),()),H2):=by rw [hlen];exact e2
  rw [e2',mB];dsimp only;rw [List.drop_zero] at y;have hX:blX (j+1+1) o l=[123,10]++(l.map fun d=>Lib.repeatL [9] (o+1)++smX (blX (j+1)) (o+1) d++[10]).flatten++Lib.repeatL [9] o++[125]:=rfl;rcases y with ⟨rfl,sb,p2,c2,n2⟩ | ⟨rfl,y⟩
  ·simp only [show bD (.exit 0) (.exit 0)=true from rfl,cond_true]
   obtain ⟨H3,e3,sc,p3,c3,n3⟩:=fAk (N:=N) (by omega) p2 (k:=o) (by omega);rw [e3,aA];obtain ⟨H4,e4,y4⟩:=fF (N:=N) (by omega) p3 (xs:=[[125]]) (by simp) (by simp) (n:=1) rfl (row:=[.str [125]]) rfl;rw [e4,aA];refine ⟨H4,rfl,Put.trans' p1 c1 n1 (Put.trans' p2 c2 n2 (Put.trans' p3 c3 n3 ?_))⟩;rw [hX];simpa using y4
  ·simp only [show bD .ret (.exit 0)=false from rfl,cond_false]
   refine ⟨H2,rfl,Put.trans' p1 c1 n1 ?_⟩
   have:=y (Lib.repeatL [9] o++[125])
   rw [hX];simpa using this
end
end Qp
namespace Qp
theorem iY:∀ (b:Bs),uH (ofBytes b)=some b
 | []=>rfl
 | x::r=>by
  have:x.toNat<256:=by have:=x.toBitVec.isLt;exact this
  simp only [ofBytes,uH,iY r,Int.toNat_natCast,this,decide_true,cond_true];simp
section
variable {N:Nat} {h0 h h1 h2:Heap} {A:Nat} {b t:Bs} {s:SL} {V:Nat→Prop}
theorem aB0 (p:PrB h A b s) (hb:b.length≤1000000000):∃ h',f44 N (some (A,0)) h=some (b,h')∧Chg s.blk.toList h h':=by
 unfold f44;have c0:=p.cell;rcases p.buf with ⟨rfl,rfl⟩ | ⟨B,rfl,h2,h3,h4,h5⟩
 ·simp only [fA,Nat.zero_add,c0,bA,jA]
  exact ⟨h,by simp [gD,mV,c0];rfl,(Chg.refl [] h).mono (by simp)⟩
 ·simp only [fA,Nat.zero_add,c0,bA,jA]
  obtain ⟨k,hk⟩:∃ k,b.length=k+1:=⟨b.length-1,by omega⟩;have e1:gD E .unsafeSliceData [81] [(.slice (some (B,0)) b.length b.length 1)] h=some (.ptr (some (B,0)),h):=by rw [hk];rfl
  have hl:(ofBytes b).length=k+1:=by rw [iE,hk]
  have e2:gD E .unsafeString [144,3] [(.ptr (some (B,0))),(.int .i64 (Int.ofNat b.length))] h=some (.str b,h.put B (.row (ofBytes b) .ro)):=by
   rw [hk];show kI E 144 B (.ofNat (k+1)) h=_;unfold kI;have hbb:(Nat.ble (k+1) 1073741824&&jAa (ofBytes b) (ofBytes b))=true:=by
    rw [Bool.and_eq_true,Nat.ble_eq];exact ⟨by omega,mI _⟩
   rw [oAz,h4];simp only [show Nat.beq 5 5=true from rfl,cond_true,bB5];rw [iG _ _ (by rw [hl];exact Nat.le_refl _),List.take_of_length_le (by rw [hl];exact Nat.le_refl _)];simp only [iY,hbb,cond_true]
  rw [e1,mV];simp only [c0,bA,jA];rw [e2];have c:Chg [B] h (h.put B (.row (ofBytes b) .ro)):=(Chg.refl [B] h).put (.inl (by simp)) _;refine ⟨_,?_,c⟩;simp only [fP,qA,eC,cond_true,jC]
end
def stX:D→Bs
 | .t [.b pub,.s nm,.l lv,.l fs,_]=>(if pub=true then [112,117,98,32] else [])++[115,116,114,117,99,116,32]++nm++eG (txS lv)++[32,123,32]++(if dY fs=[] then [] else dY fs++[32])++[125,10]
 | _=>[]
def hdX:D→Bs
 | .t [.b pub,.s nm,.l lv,.l ps,ty,.l _,_]=>eA2 pub nm lv ps ty
 | _=>[]
def bdX:D→Bs
 | .t [_,_,_,_,_,.l bd,_]=>blX 65 0 bd
 | _=>[]
def fuX (d:D):Bs:=hdX d++[32]++bdX d++[10]
def crX (xs ys:List D):Bs:=(xs.map stX).flatten++(ys.map fuX).flatten
section
variable {N:Nat} {h0 h h1 h2:Heap} {A:Nat} {t:Bs} {s:SL} {V:Nat→Prop}
theorem jAk {lv:List Bs} (h:jAw 64 lv):(eG lv).length≤2400:=by
 cases lv with
 | nil=>simp [eG]
 | cons y r=>
  have:=tH (B:=32) (l:=y::r) (sep:=[44,32,39]) fun w hw=>(tD (h.2 w hw)).2
  have:=Nat.le_trans this (Nat.le_trans (Nat.mul_le_mul h.1 (Nat.le_refl _)) (show 64 * (32+([44,32,39]:Bs).length)≤2300 by decide))
  rw [← gY];simp;omega
theorem wA5 (hN:3001≤N) {P:zE2} {xs:List D} (hx:∀ x∈xs,lR x) (ti:∀ x∈xs,isSt x) (hl:xs.length≤300) {s1:SL} (x:Sl h0 V s1 xs) :
  ∀ (M i:Nat) (h:Heap) (t:Bs) (s:SL),i≤xs.length→xs.length-i<M→PQ h0 h A t s→∃ h',wX N M P (some (A,0)) s1 (xs.length:Int) (i:Int) h=some (.exit 0,(P,some (A,0),()),h')∧Put h0 h A s h' (t++((xs.drop i).map stX).flatten):=by
 intro M
 induction M with
 | zero=>intro i h t s _ hM;omega
 | succ M ih=>
  intro i h t s hi hM p;rw [fA9];unfold nA1;simp only [aC]
  by_cases q:i<xs.length
  ·simp only [q,decide_true,cond_true]
   have hm:=List.getElem_mem q;obtain ⟨r,g,d⟩:=rA4.elt x q (ti _ hm);rw [x.ix q 5,uP p.base (mL x q),g,wAv];obtain ⟨h5,p5,c5,o5⟩:=rA4.park (z:=stc st0) rfl h r;have p5':∀ {β:Type} (K:Heap→Option β),tA ((h.push (.row [(.bool false),(.str []),(.slice none 0 0 0),(.slice none 0 0 0),(.int .i64 0)] .own)).store (h.next,0) [(.bool r.1),(.str r.2.1),(.slice r.2.2.1.a r.2.2.1.len r.2.2.1.cap r.2.2.1.sz),(.slice r.2.2.2.1.a r.2.2.2.1.len r.2.2.2.1.cap r.2.2.2.1.sz),(.int .i64 r.2.2.2.2.1)]) K=K h5:=p5;rw [p5'];have hd:(xs.drop i)=xs[i]::xs.drop (i+1):=List.drop_eq_getElem_cons q;have hsx:=hx _ hm;generalize xs[i]=y at *;obtain ⟨pub,nm,lv,fs,a,rfl,hn,hlv,hfs⟩:=hsx;have base5:=p.base.trans c5;obtain ⟨s1',s2',hc,y1,y2⟩:=qA4 d;obtain rfl:=rA4.inj hc;have y1:=y1.chg base5 (by simp);have y2:=y2.chg base5 (by simp);have pq5:=p.chg c5;have o3:h5.cell (h.next,3)=some (.slice s2'.a s2'.len s2'.cap s2'.sz):=o5.cell 3;simp only [Nat.zero_add,Nat.add_zero,o3,bA,jA];obtain ⟨h7,e7,c7⟩:=bAp (N:=N) (by omega) hfs y2;have e7':f38 N ⟨s2'.a,s2'.len,s2'.cap,s2'.sz⟩ h5=some (dY fs,h7):=e7;rw [e7',aA];have o7:=o5.chg c7 (by simp);have a0:h7.cell (h.next,0)=some (.bool pub):=o7.cell 0;have a1:h7.cell (h.next,1)=some (.str nm):=o7.cell 1;have a2:h7.cell (h.next,2)=some (.slice s1'.a s1'.len s1'.cap s1'.sz):=o7.cell 2;have pq7:=pq5.chg c7;have y1:=y1.chg c7 (by simp);have e41:f41 N ⟨s1'.a,s1'.len,s1'.cap,s1'.sz⟩ h7=some (eG lv,h7):=aAp y1 hlv.1 hlv.2;have l1:=eS hfs;have l2:=jAk hlv;have l3:=eF hn;have l4:(if pub=true then [112,117,98,32] else []:Bs).length≤4:=by cases pub <;> simp
   have hX:stX (iAm pub nm lv fs a)=(if pub=true then [112,117,98,32] else [])++[115,116,114,117,99,116,32]++nm++eG lv++[32,123,32]++(if dY fs=[] then [] else dY fs++[32])++[125,10]:=by
    show _++_++nm++eG (txS (lv.map D.s))++_++_++_=_;rw [lJ]
   rw [hd,List.map_cons,List.flatten_cons,hX];have e40:f40 N pub h7=some ((if pub=true then [112,117,98,32] else []:Bs),h7):=dAp pub h7;generalize (if pub=true then [112,117,98,32] else []:Bs)=W at *;generalize eG lv=Mk at *;have fin:∀ (F:Bs),F.length≤500000→∃ h8 h',f39 N (some (A,0)) ⟨some (h7.next,0),7,7,1⟩ (h7.push (.row [(.str W),(.str [115,116,114,117,99,116,32]),(.str nm),(.str Mk),(.str [32,123,32]),(.str F),(.str [125,10])] .own))=some ((),h8)∧
     wX N M P (some (A,0)) s1 (xs.length:Int) ((i+1:Nat):Int) h8=some (.exit 0,(P,some (A,0),()),h')∧Put h0 h A s h' (t++(W++[115,116,114,117,99,116,32]++nm++Mk++[32,123,32]++F++[125,10]++((xs.drop (i+1)).map stX).flatten)):=by
    intro F hF;obtain ⟨h8,e8,s8,p8,c8,n8⟩:=fF (N:=N) (by omega) pq7 (xs:=[W,[115,116,114,117,99,116,32],nm,Mk,[32,123,32],F,[125,10]]) (by
     intro w hw;simp only [List.mem_cons,List.not_mem_nil,or_false] at hw;rcases hw with rfl | rfl | rfl | rfl | rfl | rfl | rfl <;> first | omega | simp) (by simp) (n:=7) rfl (row:=[(.str W),(.str [115,116,114,117,99,116,32]),(.str nm),(.str Mk),(.str [32,123,32]),(.str F),(.str [125,10])]) rfl
    obtain ⟨h',e',y⟩:=ih (i+1) h8 _ s8 q (by omega) p8;refine ⟨h8,h',e8,e',Put.pre (c5.trans c7) (Put.trans' p8 c8 n8 ?_)⟩;simpa using y
   by_cases hf:dY fs=[]
   ·have z:aB (dY fs) []=true:=by rw [hf];rfl
    simp only [z,Bool.not_true,cond_false,a0,bA,kB];rw [e40,aA];simp only [a1,a2,a0,bA,qA,jA];rw [e41,aA,if_pos hf];obtain ⟨h8,h',e8,e',y⟩:=fin (dY fs) (by omega);rw [hf] at e8 y ⊢;rw [e8,aA];simp only [a1,a2,a0,eC,cond_true,jC];rw [eB (by omega)];exact ⟨h',e',y⟩
   ·have z:aB (dY fs) []=false:=by
     cases hq:dY fs with
     | nil=>exact absurd hq hf
     | cons _ _=>rfl
    simp only [z,Bool.not_false,cond_true];rw [tB (by simp;omega)];simp only [a0,bA,kB,qA];rw [e40,aA];simp only [a1,a2,a0,bA,qA,jA];rw [e41,aA,if_neg hf];obtain ⟨h8,h',e8,e',y⟩:=fin (dY fs++[32]) (by simp;omega);rw [e8,aA];simp only [a1,a2,a0,eC,cond_true,jC];rw [eB (by omega)];exact ⟨h',e',y⟩
  ·simp only [q,decide_false,cond_false]
   have:xs.drop i=[]:=List.drop_eq_nil_of_le (by omega)
   rw [this];exact ⟨h,rfl,by simpa using p.same⟩
theorem wAe (hN:3001≤N) (pk:PK h0) {xs:List D} (hx:∀ x∈xs,mP x) (ti:∀ x∈xs,isFu x) (hl:xs.length≤300) {s1:SL} (x:Sl h0 V s1 xs) :
  ∀ (M i:Nat) (h:Heap) (t:Bs) (s:SL),i≤xs.length→xs.length-i<M→PQ h0 h A t s→∃ h',kA5 N M (some (A,0)) s1 (xs.length:Int) (i:Int) h=some (.exit 2,(some (A,0),()),h')∧Put h0 h A s h' (t++((xs.drop i).map fuX).flatten):=by
 intro M
 induction M with
 | zero=>intro i h t s _ hM;omega
 | succ M ih=>
  intro i h t s hi hM p;rw [eA9];unfold mA1;simp only [aC]
  by_cases q:i<xs.length
  ·simp only [q,decide_true,cond_true]
   have hm:=List.getElem_mem q;obtain ⟨r,g,d⟩:=kU.elt x q (ti _ hm);rw [x.ix q 10,uP p.base (mL x q),g,rAt];obtain ⟨h5,p5,c5,o5⟩:=kU.park (z:=fux (fuv (jAm false [] 0))) rfl h r;have p5':∀ {β:Type} (K:Heap→Option β),tA ((h.push (.row yZD .own)).store (h.next,0) (yRD r)) K=K h5:=p5;rw [p5',kU.cells o5];have hd:(xs.drop i)=xs[i]::xs.drop (i+1):=List.drop_eq_getElem_cons q;have hsx:=hx _ hm;have tix:=ti _ hm;generalize xs[i]=y at *;obtain ⟨pub,nm,lv,ps,ty,bd,a,rfl,hn,hlv,hps,hty,hbd,hct⟩:=hsx;have tt:isTy 65 ty∧bd.length≤3000∧∀ s∈bd,aW 65 s:=by
    obtain ⟨pub',nm',lv',ps',ty',bd',a',e,_,_,_,_,h1,h2,h3⟩:=tix;simp only [fuT,D.t.injEq,List.cons.injEq,D.i.injEq,D.b.injEq,D.s.injEq,D.l.injEq,and_true] at e;obtain ⟨rfl,rfl,rfl,rfl,rfl,rfl,rfl⟩:=e;exact ⟨h1,h2,h3⟩
   obtain ⟨t1,t2,t3⟩:=tt;obtain ⟨s1',s2',s3',rt,hc,y1,y2,yt,y3⟩:=tAb t1 d;obtain ⟨rr,hrr⟩:∃ rr:FuR,rr=⟨pub,nm,s1',s2',rt,s3',(a:Int)⟩:=⟨_,rfl⟩;rw [← hrr] at hc;have hr:r=fuv rr:=kU.inj hc;subst hr;have base5:=p.base.trans c5;have pq5:=p.chg c5;obtain ⟨h7,e7,c7⟩:=iAk (N:=N) (by omega) rr (lv:=lv) (ps:=ps) (ty:=ty) (by rw [hrr];exact hn) hlv hps hty (by rw [hrr];exact y1.chg base5 (by simp)) (by rw [hrr];exact y2.chg base5 (by simp)) (by rw [hrr];exact Dt.chg base5 (by simp) yt);have hhd:eA2 rr.pub rr.nm lv ps ty=hdX (fuT pub nm lv ps ty bd a):=by rw [hrr];rfl
   have l1:=vA5 (pub:=rr.pub) (nm:=rr.nm) (by rw [hrr];exact hn) hlv hps hty;rw [hhd] at e7 l1;have e7':f20 N ((fuv rr).1,(fuv rr).2.1,(fuv rr).2.2.1,(fuv rr).2.2.2.1,(fuv rr).2.2.2.2.1,(fuv rr).2.2.2.2.2.1,(fuv rr).2.2.2.2.2.2.1,(fuv rr).2.2.2.2.2.2.2.1,(fuv rr).2.2.2.2.2.2.2.2.1,(fuv rr).2.2.2.2.2.2.2.2.2.1,()) h5=some (hdX (fuT pub nm lv ps ty bd a),h7):=e7;rw [e7',aA];have pq7:=pq5.chg c7;have o7:=o5.chg c7 (by simp);obtain ⟨h8,e8,s8,p8,c8,n8⟩:=fF (N:=N) (by omega) pq7 (xs:=[hdX (fuT pub nm lv ps ty bd a),[32]]) (by
     intro w hw;simp only [List.mem_cons,List.not_mem_nil,or_false] at hw;rcases hw with rfl | rfl <;> first | omega | simp) (by simp) (n:=2) rfl (row:=[(.str (hdX (fuT pub nm lv ps ty bd a))),(.str [32])]) rfl
   rw [e8,aA];have o8:=o7.chg c8 (p.out (Nat.le_refl _));have a8:h8.cell (h.next,8)=some (.slice s3'.a s3'.len s3'.cap s3'.sz):=by
    have:(fuc rr)[8]? = some (.slice s3'.a s3'.len s3'.cap s3'.sz):=by rw [hrr];rfl
    rw [← this];exact o8.cell 8
   simp only [Nat.zero_add,a8,bA,jA];obtain ⟨h9,e9,s9,p9,c9,n9⟩:=yAz (N:=N) hN pk 64 N 0 bd s3' h8 _ s8 (by omega) (by omega) hbd t3 t2 y3 p8;have e9':f42 N N (some (A,0)) ⟨s3'.a,s3'.len,s3'.cap,s3'.sz⟩ 0 h8=some ((),h9):=e9;rw [e9',aA];obtain ⟨h10,e10,s10,p10,c10,n10⟩:=fF (N:=N) (by omega) p9 (xs:=[[10]]) (by simp) (by simp) (n:=1) rfl (row:=[.str [10]]) rfl;rw [e10,aA,eB (by omega)];obtain ⟨h',e',yy⟩:=ih (i+1) h10 _ s10 q (by omega) p10;refine ⟨h',e',Put.pre (c5.trans c7) (Put.trans' p8 c8 n8 (Put.trans' p9 c9 n9 (Put.trans' p10 c10 n10 ?_)))⟩;rw [hd,List.map_cons,List.flatten_cons];have hX:fuX (fuT pub nm lv ps ty bd a)=hdX (fuT pub nm lv ps ty bd a)++[32]++blX (64+1) 0 bd++[10]:=rfl;rw [hX];simpa using yy
  ·simp only [q,decide_false,cond_false]
   have:xs.drop i=[]:=List.drop_eq_nil_of_le (by omega)
   rw [this];exact ⟨h,rfl,by simpa using p.same⟩
theorem bB0 (h:Heap):PQ h (h.push (.row [(.ptr none),(.slice none 0 0 0)] (.ty 85))) h.next [] ⟨none,0,0,0⟩:=by
 refine ⟨[],⟨⟨none,uF _ rfl,.inl rfl⟩,Nat.lt_succ_self _,.inl ⟨rfl,rfl⟩⟩,(fun B hB=>by cases hB),Nat.le_refl _,uA h _,⟨by simp,.inl ⟨by simp,rfl⟩⟩⟩
def PrA (h:Heap) (r:Bs×AV×Unit) (x:Bs):Prop:=(x.length≤1048576∧r=(x,AV.nilIface,()))∨(1048576<x.length∧r.1=[]∧FaultAt h r.2.1 5 0)
theorem aAd (hN:3001≤N) {xs ys:List D} (hx:∀ x∈xs,lR x) (hy:∀ y∈ys,mP y) (tx:∀ x∈xs,isSt x) (ty:∀ y∈ys,isFu y) (hl:xs.length+ys.length≤256) (pk:PK h) {s1 s2:SL} (y1:Sl h V s1 xs) (y2:Sl h V s2 ys):∃ r h',f16 N (s1,s2,()) h=some (r,h')∧Chg [] h h'∧PrA h' r (crX xs ys):=by
 unfold f16;have o:=vA h [SL.av s1,SL.av s2];have c:=uA h (.row [SL.av s1,SL.av s2] .own);have e1:h.push (.row [(.slice s1.a s1.len s1.cap s1.sz),(.slice s2.a s2.len s2.cap s2.sz)] .own)=h.push (.row [SL.av s1,SL.av s2] .own):=rfl;dsimp only;rw [e1];have pk:=pk.chg c;have y1:=y1.chg c (by simp);have y2:=y2.chg c (by simp);generalize h.push (.row [SL.av s1,SL.av s2] .own)=H at *;rw [show H.cells (h.next,0) 2=some (.agg [SL.av s1,SL.av s2]) from o.cells (j:=0) (m:=2) (by simp)];have e2:∀ {β:Type} (K:zT1→Option β),dA (.val zJ) (some (.agg [SL.av s1,SL.av s2])) K=K (s1,s2,()):=fun K=>by simp [SL.av]
 rw [e2];obtain ⟨H1,e3,c1⟩:=oAx (N:=N) hN hx hy tx ty hl pk y1 y2;have e3':f33 N ((s1,s2,()).1,(s1,s2,()).2.1,()) H=some (true,H1):=e3;rw [e3',aA];simp only [Bool.not_true,cond_false];have o1:=o.chg c1 (by simp);have pk:=pk.chg c1;have y1:=y1.chg c1 (by simp);have y2:=y2.chg c1 (by simp);have p8:=bB0 H1;have c8:=uA H1 (.row [(.ptr none),(.slice none 0 0 0)] (.ty 85));generalize H1.push (.row [(.ptr none),(.slice none 0 0 0)] (.ty 85))=H8 at *;have o8:=o1.chg c8 (by simp);have a0:H8.cell (h.next,0)=some (.slice s1.a s1.len s1.cap s1.sz):=o8.cell 0;have l1:s1.len=xs.length:=y1.len;have l2:s2.len=ys.length:=y2.len;simp only [Nat.zero_add,Nat.add_zero,a0,bA,jA];obtain ⟨H9,e9,s9,p9,c9,n9⟩:=wA5 (N:=N) (h0:=H1) (A:=H1.next) (P:=some (h.next,0)) hN hx tx (by omega) y1 N 0 H8 [] _ (Nat.zero_le _) (by omega) p8;have e9':wX N N (some (h.next,0)) (some (H1.next,0)) ⟨s1.a,s1.len,s1.cap,s1.sz⟩ (Int.ofNat s1.len) 0 H8=some (.exit 0,(some (h.next,0),some (H1.next,0),()),H9):=by
  rw [show Int.ofNat s1.len=(xs.length:Int) from congrArg Int.ofNat l1];exact e9
 rw [e9',mB];have c89:Chg [] H1 H9:=p9.base;have o9:=o1.chg c89 (by simp);have a1:H9.cell (h.next,1)=some (.slice s2.a s2.len s2.cap s2.sz):=o9.cell 1;simp only [fA,Nat.zero_add,a1,bA,jA];obtain ⟨H10,e10,s10,p10,c10,n10⟩:=wAe (N:=N) (h0:=H1) (A:=H1.next) hN pk hy ty (by omega) y2 N 0 H9 _ s9 (Nat.zero_le _) (by omega) p9;have e10':kA5 N N (some (H1.next,0)) ⟨s2.a,s2.len,s2.cap,s2.sz⟩ (Int.ofNat s2.len) 0 H9=some (.exit 2,(some (H1.next,0),()),H10):=by
  rw [show Int.ofNat s2.len=(ys.length:Int) from congrArg Int.ofNat l2];exact e10
 rw [e10',mB];have hcr:[]++((xs.drop 0).map stX).flatten++((ys.drop 0).map fuX).flatten=crX xs ys:=by simp [crX]
 rw [hcr] at p10;generalize crX xs ys=X at *;obtain ⟨b,pb,hs,hA,cb,lb⟩:=p10;simp only [fA,Nat.zero_add,bAk pb,aA];have hlt:ltInt 1048576 (b.length:Int)=decide (1048576<b.length):=by
  rw [ltI]
  by_cases h1:1048576<b.length
  ·rw [decide_eq_true h1,decide_eq_true];omega
  ·rw [decide_eq_false h1,decide_eq_false];omega
 rw [hlt];have cc:Chg [] h H10:=(c.trans c1).trans cb
 by_cases hb:1048576<b.length
 ·simp only [hb,decide_true,cond_true]
  obtain ⟨v,h',e,c',f⟩:=mAq N (c:=5) (by decide) 0 H10;rw [e,aA];refine ⟨_,h',rfl,cc.trans c',.inr ⟨?_,rfl,f⟩⟩;rcases lb.2 with ⟨l,e⟩ | ⟨l,_⟩
  ·subst e;omega
  ·exact l
 ·simp only [hb,decide_false,cond_false]
  obtain ⟨h',e,c'⟩:=aB0 (N:=N) pb (by omega);rw [e,aA];refine ⟨_,h',rfl,?_,.inl ?_⟩
  ·exact cc.step c' fun B hB hlt=>by
    have h1:=hs B (tP hB);have h2:=c.next;have h3:=c1.next;omega
  ·rcases lb.2 with ⟨l,e⟩ | ⟨_,l⟩
   ·subst e;exact ⟨l,rfl⟩
   ·omega
end
end Qp
namespace Qp
section
variable {N:Nat} {h:Heap} {V:Nat→Prop}
theorem mO {G:Heap} {s:SL} {l:List D} (x:Sl G V s l) {i:Nat} (q:i<l.length) (hwt:Wt Tryz.prog l[i] 106):∃ s1 s2:SL,G.cell ((s.at i 32).1,(s.at i 32).2+30)=some (.slice s1.a s1.len s1.cap s1.sz)∧G.cell ((s.at i 32).1,(s.at i 32).2+31)=some (.slice s2.a s2.len s2.cap s2.sz)∧Sl G V s1 (thD l[i])∧Sl G V s2 (elD l[i])∧
  (∀ y∈thD l[i],Wt Tryz.prog y 106)∧(∀ y∈elD l[i],Wt Tryz.prog y 106)∧wtL (thD l[i])+wtL (elD l[i])<wtD l[i]:=by
 obtain ⟨cs,e⟩:=x.elt q;obtain ⟨k,a,m,nm,ty,hs,pl,va,co,th,el,hd,t1,t2,t3,t4,t5,t6,t7⟩:=vB4 hwt;rw [hd] at e ⊢;obtain ⟨rt,rp,rv,ro,s1,s2,hc,x1,x2,x3,x4,x5,x6⟩:=pAj t1 t2 t3 t4 e.dt;have hz:s.sz=32:=by rw [← e.len,hc];rfl
 have e30:=e.cell 30 (by rw [hz];decide);have e31:=e.cell 31 (by rw [hz];decide);rw [hz,hc] at e30 e31;exact ⟨s1,s2,e30,e31,x5,x6,t6,t7,yAo.2.2.2.2⟩
theorem jY {rec34:SL→Int→Heap→Option (Int×Heap)} {v1:Int} {l:List D} (hwl:l.length≤2000000) (ht:∀ x∈l,Wt Tryz.prog x 106) (hrec:∀ (k:List D) (s:SL) (H:Heap),wtL k<wtL l→(∀ x∈k,Wt Tryz.prog x 106)→Sl H V s k→∃ n H',rec34 s (bB .i64 (v1-1)) H=some (n,H')∧Chg [] H H') {s:SL} :
  ∀ (M i:Nat) (v:Int) (h:Heap),i≤l.length→l.length-i<M→Sl h V s l→∃ v' h',cAc N rec34 M s v1 v (i:Int) h=some (.exit 0,(v',()),h')∧Chg [] h h':=by
 intro M
 induction M with
 | zero=>intro i v h _ h;omega
 | succ M ih=>
  intro i v h hi hM x;rw [vA8];unfold gA1;have hv:s.len=l.length:=x.len;simp only [vF,hv]
  by_cases q:i<l.length
  ·simp only [q,decide_true,cond_true]
   cases hz:ltInt 0 v1 with
   | false=>
    simp only [cond_false];exact ⟨_,h,rfl,Chg.refl _ _⟩
   | true=>
    simp only [cond_true];have hm:=List.getElem_mem q;have hix:∀ {G:Heap} {β:Type} (K:Nat×Nat→Option β),ixK s.a l.length (i:Int) 32 K=K (s.at i 32):=fun K=>by rw [← hv];exact x.ix q 32 K
    obtain ⟨s1,s2,a30,a31,y1,y2,t1,t2,hw⟩:=mO x q (ht _ hm);have hwl2:=yQ hm;rw [hix (G:=h),a30];simp only [bA,jA];obtain ⟨n1,H1,e1,c1⟩:=hrec _ s1 h (by omega) t1 y1;have e1':rec34 ⟨s1.a,s1.len,s1.cap,s1.sz⟩ (bB .i64 (v1-1)) h=some (n1,H1):=e1;rw [e1',aA];have x1:=x.chg c1 (by simp);obtain ⟨s1',s2',a30',a31',_,y2',_,_,_⟩:=mO x1 q (ht _ hm);have hs2:s2'=s2:=by
     have e:h.t.get (s.at i 32).1=H1.t.get (s.at i 32).1:=((c1.g _ (mL x q) (by simp))).symm
     have:h.cell ((s.at i 32).1,(s.at i 32).2+31)=H1.cell ((s.at i 32).1,(s.at i 32).2+31):=by simp only [Heap.cell,Heap.row,e]
     rw [a31,a31'] at this;simp only [Option.some.injEq] at this;exact SL.av_inj this.symm
    subst hs2;rw [hix (G:=H1),a31'];simp only [bA,jA];obtain ⟨n2,H2,e2,c2⟩:=hrec _ s2' H1 (by omega) t2 y2';have e2':rec34 ⟨s2'.a,s2'.len,s2'.cap,s2'.sz⟩ (bB .i64 (v1-1)) H1=some (n2,H2):=e2;rw [e2',aA];simp only [a31',a31,a30,eC,cond_true,jC];rw [eB (by omega)];obtain ⟨v',h',e',c'⟩:=ih (i+1) _ H2 q (by omega) (x1.chg c2 (by simp));exact ⟨v',h',e',(c1.trans c2).trans c'⟩
  ·simp only [q,decide_false,cond_false]
   exact ⟨_,h,rfl,Chg.refl _ _⟩
theorem bAt:∀ (w M:Nat) (l:List D) (s:SL) (v1:Int) (h:Heap),wtL l≤w→w<M→wtL l<N→wtL l≤2000000→(∀ x∈l,Wt Tryz.prog x 106)→Sl h V s l→∃ n h',f34 N M s v1 h=some (n,h')∧Chg [] h h':=by
 intro w
 induction w with
 | zero=>
  intro M l s v1 h hw hM hN hwl ht x;obtain ⟨M,rfl⟩:∃ m,M=m+1:=⟨M-1,by omega⟩;rw [dAc];unfold aAn
  have:=pE l
  obtain ⟨v',h',e,c⟩:=jY (N:=N) (rec34:=f34 N M) (v1:=v1) (l:=l) (by omega) ht (fun k s H h1 _ _=>by omega) N 0 0 h (Nat.zero_le _) (by omega) x;rw [show ((0:Nat):Int)=0 from rfl] at e;rw [e];exact ⟨v',h',rfl,c⟩
 | succ w ih=>
  intro M l s v1 h hw hM hN hwl ht x;obtain ⟨M,rfl⟩:∃ m,M=m+1:=⟨M-1,by omega⟩;rw [dAc];unfold aAn
  have:=pE l
  obtain ⟨v',h',e,c⟩:=jY (N:=N) (rec34:=f34 N M) (v1:=v1) (l:=l) (by omega) ht (fun k s H h1 h2 h3=>ih M k s _ H (by omega) (by omega) (by omega) (by omega) h2 h3) N 0 0 h (Nat.zero_le _) (by omega) x;rw [show ((0:Nat):Int)=0 from rfl] at e;rw [e];exact ⟨v',h',rfl,c⟩
theorem wAn {l:List D} {i:Nat} (h:i<l.length):wtL (l.drop i)=wtD l[i]+wtL (l.drop (i+1)):=by
 rw [List.drop_eq_getElem_cons h,wtL]
theorem yA9 {rec35:SL→Heap→Option (Int×Heap)} {l:List D} (hwl:wtL l≤2000000) (ht:∀ x∈l,Wt Tryz.prog x 106) (hrec:∀ (k:List D) (s:SL) (H:Heap),wtL k<wtL l→(∀ x∈k,Wt Tryz.prog x 106)→Sl H V s k→∃ (n:Nat) (H':Heap),rec35 s H=some ((n:Int),H')∧Chg [] H H'∧(∀ j,mJ j k≤n)∧n≤wtL k) {s:SL} :
  ∀ (M i v:Nat) (h:Heap),i≤l.length→l.length-i<M→v+wtL (l.drop i)≤4000000→Sl h V s l→∃ (v':Nat) (h':Heap),eAc N rec35 M s (v:Int) (i:Int) h=some (.exit 0,((v':Int),()),h')∧Chg [] h h'∧(∀ j,v+((l.drop i).map fun d=>mJ j (thD d)+mJ j (elD d)).sum≤v')∧v'+(l.drop i).length≤v+wtL (l.drop i):=by
 intro M
 induction M with
 | zero=>intro i v h _ h;omega
 | succ M ih=>
  intro i v h hi hM hvb x;rw [wA8];unfold iA1;have hv:s.len=l.length:=x.len;have hll:=pE l;simp only [vF,hv]
  by_cases q:i<l.length
  ·simp only [q,decide_true,cond_true]
   have hm:=List.getElem_mem q;have hix:∀ {G:Heap} {β:Type} (K:Nat×Nat→Option β),ixK s.a l.length (i:Int) 32 K=K (s.at i 32):=fun K=>by rw [← hv];exact x.ix q 32 K
   obtain ⟨s1,s2,a30,a31,y1,y2,t1,t2,hw⟩:=mO x q (ht _ hm);have hwl2:=yQ hm;have hwd:=wAn q;rw [hix (G:=h),a30];simp only [bA,jA];obtain ⟨n1,H1,e1,c1,m1,u1⟩:=hrec _ s1 h (by omega) t1 y1;have e1':rec35 ⟨s1.a,s1.len,s1.cap,s1.sz⟩ h=some ((n1:Int),H1):=e1;rw [e1',aA];have x1:=x.chg c1 (by simp);obtain ⟨s1',s2',a30',a31',_,y2',_,_,_⟩:=mO x1 q (ht _ hm);have hs2:s2'=s2:=by
    have e:h.t.get (s.at i 32).1=H1.t.get (s.at i 32).1:=((c1.g _ (mL x q) (by simp))).symm
    have:h.cell ((s.at i 32).1,(s.at i 32).2+31)=H1.cell ((s.at i 32).1,(s.at i 32).2+31):=by simp only [Heap.cell,Heap.row,e]
    rw [a31,a31'] at this;simp only [Option.some.injEq] at this;exact SL.av_inj this.symm
   subst hs2;rw [hix (G:=H1),a31'];simp only [bA,jA];obtain ⟨n2,H2,e2,c2,m2,u2⟩:=hrec _ s2' H1 (by omega) t2 y2';have e2':rec35 ⟨s2'.a,s2'.len,s2'.cap,s2'.sz⟩ H1=some ((n2:Int),H2):=e2;rw [e2',aA];simp only [a31',a31,a30,eC,cond_true,jC];rw [eB (by omega)];have w1:bB .i64 ((v:Int)+(n1:Int))=((v+n1:Nat):Int):=by rw [lD (by omega) (by omega)];omega
   have w2:bB .i64 (((v+n1:Nat):Int)+(n2:Int))=((v+n1+n2:Nat):Int):=by rw [lD (by omega) (by omega)];omega
   rw [w1,w2];obtain ⟨v',h',e',c',m',u'⟩:=ih (i+1) (v+n1+n2) H2 q (by omega) (by omega) (x1.chg c2 (by simp));refine ⟨v',h',e',(c1.trans c2).trans c',fun j=>?_,?_⟩
   ·have h1:=m1 j
    have h2:=m2 j;have h3:=m' j;rw [List.drop_eq_getElem_cons q,List.map_cons,List.sum_cons];omega
   ·rw [List.drop_eq_getElem_cons q,List.length_cons,wtL]
    omega
  ·simp only [q,decide_false,cond_false]
   have:l.drop i=[]:=List.drop_eq_nil_of_le (by omega)
   rw [this];exact ⟨v,h,rfl,Chg.refl _ _,fun j=>by simp,by simp [wtL]⟩
theorem kAk:∀ (w M:Nat) (l:List D) (s:SL) (h:Heap),wtL l≤w→w<M→wtL l<N→wtL l≤2000000→(∀ x∈l,Wt Tryz.prog x 106)→Sl h V s l→∃ (n:Nat) (h':Heap),f35 N M s h=some ((n:Int),h')∧Chg [] h h'∧(∀ j,mJ j l≤n)∧n≤wtL l:=by
 intro w;have step:∀ (M:Nat) (l:List D) (s:SL) (h:Heap),wtL l<N→wtL l≤2000000→(∀ x∈l,Wt Tryz.prog x 106)→Sl h V s l→(∀ (k:List D) (s:SL) (H:Heap),wtL k<wtL l→(∀ x∈k,Wt Tryz.prog x 106)→Sl H V s k→∃ (n:Nat) (H':Heap),f35 N M s H=some ((n:Int),H')∧Chg [] H H'∧(∀ j,mJ j k≤n)∧n≤wtL k)→
   ∃ (n:Nat) (h':Heap),bAn N (f35 N M) s h=some ((n:Int),h')∧Chg [] h h'∧(∀ j,mJ j l≤n)∧n≤wtL l:=by
  intro M l s h hN hwl ht x hrec;unfold bAn;have hll:=pE l;obtain ⟨v',h',e,c,m,u⟩:=yA9 (N:=N) hwl ht hrec N 0 l.length h (Nat.zero_le _) (by omega) (by rw [List.drop_zero];omega) x;rw [show ((0:Nat):Int)=0 from rfl] at e;rw [show Int.ofNat s.len=((l.length:Nat):Int) from congrArg Int.ofNat x.len,e];rw [List.drop_zero] at m u;refine ⟨v',h',rfl,c,fun j=>?_,by omega⟩
  cases j with
  | zero=>exact Nat.zero_le _
  | succ j=>exact m j
 induction w with
 | zero=>
  intro M l s h hw hM hN hwl ht x;obtain ⟨M,rfl⟩:∃ m,M=m+1:=⟨M-1,by omega⟩;rw [fAc];exact step M l s h hN hwl ht x (fun k s H h1 _ _=>by omega)
 | succ w ih=>
  intro M l s h hw hM hN hwl ht x;obtain ⟨M,rfl⟩:∃ m,M=m+1:=⟨M-1,by omega⟩;rw [fAc];exact step M l s h hN hwl ht x (fun k s H h1 h2 h3=>ih M k s H (by omega) (by omega) (by omega) (by omega) h2 h3)
end
end Qp
namespace Qp
section
variable {N:Nat} {h:Heap} {V:Nat→Prop}
theorem aAa (hN:100≤N) {P:Nat} {rr:FuR} {lv:List D} (hl:lv.length≤64) (ht:∀ x∈lv,rLf x) (hw:wtL lv≤2000000):∀ (M i:Nat) (h:Heap),i≤lv.length→lv.length-i<M→h.own P (fuc rr)→Sl h V rr.lv lv→(∀ j,(hj:j<lv.length)→j<i→kR lv[j])→
  ∃ o b h',nAc N M (some (P,0)) false (i:Int) h=some (o,(some (P,0),b,()),h')∧Chg [] h h'∧((o=.exit 0∧∀ x∈lv,kR x)∨(o=.ret∧b=false)):=by
 intro M
 induction M with
 | zero=>intro i h _ h;omega
 | succ M ih=>
  intro i h hi hM o x hp;rw [mA9];unfold uA1;have rd:∀ {G:Heap},G.own P (fuc rr)→G.cell (P,2)=some (.slice rr.lv.a rr.lv.len rr.lv.cap rr.lv.sz):=fun o=>o.cell 2;have hv:rr.lv.len=lv.length:=x.len;simp only [fA,Nat.zero_add,rd o,bA,jA,vF,hv]
  by_cases q:i<lv.length
  ·simp only [q,decide_true,cond_true]
   have hm:=List.getElem_mem q;have hix:∀ {β:Type} (K:Nat×Nat→Option β),ixK rr.lv.a lv.length (i:Int) 2 K=K (rr.lv.at i 2):=fun K=>by rw [← hv];exact x.ix q 2 K
   have rdL:∀ {G:Heap},Sl G V rr.lv lv→∃ (nm:Bs) (xs:List Bs) (sl:SL),lv[i]=gE nm (xs.map D.s)∧G.cell ((rr.lv.at i 2).1,(rr.lv.at i 2).2+0)=some (.str nm)∧G.cell ((rr.lv.at i 2).1,(rr.lv.at i 2).2+1)=some (.slice sl.a sl.len sl.cap sl.sz)∧Sl G V sl (xs.map D.s):=by
    intro G x;obtain ⟨cs,e⟩:=x.elt q;obtain ⟨nm,xs,h1⟩:=ht _ hm;have hd:=e.dt;rw [h1] at hd;obtain ⟨sl,hc,hd⟩:=oI hd;have hz:rr.lv.sz=2:=by rw [← e.len,hc];rfl
    have e0:=e.cell 0 (by rw [hz];decide);have e1:=e.cell 1 (by rw [hz];decide);rw [hz,hc] at e0 e1;exact ⟨nm,xs,sl,h1,e0,e1,hd⟩
   obtain ⟨nm,xs,sl,h1,a0,a1,y⟩:=rdL x;rw [hix,a0];simp only [bA,qA];rw [pA7 (by omega),aA]
   cases hn:qE nm with
   | false=>
    simp only [Bool.not_false,cond_true];exact ⟨_,_,h,rfl,Chg.refl _ _,.inr ⟨rfl,rfl⟩⟩
   | true=>
    simp only [Bool.not_true,cond_false,fA,Nat.zero_add,rd o,bA,jA,hv];rw [hix,a1];simp only [bA,jA];have hxl:xs.length≤2000000:=by
     have h2:=yQ hm;have h3:=pE (xs.map D.s);rw [h1] at h2;simp only [gE,wtD,wtL] at h2;rw [List.length_map] at h3;omega
    obtain ⟨b,e,hb⟩:=nAb (N:=N) y hN (by omega);have e':f47 N ⟨sl.a,sl.len,sl.cap,sl.sz⟩ h=some (b,h):=e;rw [e',aA]
    cases b with
    | false=>
     simp only [Bool.not_false,cond_true];exact ⟨_,_,h,rfl,Chg.refl _ _,.inr ⟨rfl,rfl⟩⟩
    | true=>
     simp only [Bool.not_true,cond_false];rw [eB (by omega)];exact ih (i+1) h q (by omega) o x fun j hj hji=>by
      by_cases e:j=i
      ·subst e
       rw [h1];exact ⟨nm,xs,rfl,hn,hb rfl⟩
      ·exact hp j hj (by omega)
  ·simp only [q,decide_false,cond_false]
   refine ⟨_,_,h,rfl,Chg.refl _ _,.inl ⟨rfl,fun y hy=>?_⟩⟩;obtain ⟨j,hj,rfl⟩:=List.getElem_of_mem hy;exact hp j hj (by omega)
theorem cAt (hN:3001≤N) {d:D} (hd:rFu d) (hw:wtD d<N) (hwl:wtD d≤2000000) {r:FuV} (x:Dt h V d (fux r)):∃ b h',f49 N r h=some (b,h')∧Chg [] h h'∧(b=true→mP d):=by
 obtain ⟨pub,nm,lv,ps,ty,bd,a,rfl,t1,t2,t3,t4,t5⟩:=hd;have hwt:wtL lv≤wtD (fuT pub nm lv ps ty bd a)∧wtL ps≤wtD (fuT pub nm lv ps ty bd a)∧wtD ty≤wtD (fuT pub nm lv ps ty bd a)∧wtL bd≤wtD (fuT pub nm lv ps ty bd a):=by simp only [fuT,wtD,wtL];omega
 obtain ⟨w1,w2,w3,w4⟩:=hwt;obtain ⟨s1,s2,s3,rt,hc,y1,y2,yt,y3⟩:=qAj t1 x;obtain ⟨rr,hrr⟩:∃ rr:FuR,rr=⟨pub,nm,s1,s2,rt,s3,(a:Int)⟩:=⟨_,rfl⟩;rw [← hrr] at hc;have hr:r=fuv rr:=eAz.inj hc;subst hr;unfold f49;have o:=vA h (fuc rr);have c:=uA h (.row (fuc rr) .own);have e1:h.push (.row (yRD (fuv rr)) .own)=h.push (.row (fuc rr) .own):=rfl;dsimp only;rw [e1];have y1:=y1.chg c (by simp);have y2:=y2.chg c (by simp);have yt:=Dt.chg c (by simp) yt;have y3:=y3.chg c (by simp);generalize h.push (.row (fuc rr) .own)=H at *;have rd:∀ {H':Heap},Chg [] H H'→H'.cell (h.next,1)=some (.str nm)∧H'.cell (h.next,2)=some (.slice s1.a s1.len s1.cap s1.sz)∧H'.cell (h.next,3)=some (.slice s2.a s2.len s2.cap s2.sz)∧H'.cells (h.next,4) 4=some (.agg (tyc rt))∧H'.cell (h.next,8)=some (.slice s3.a s3.len s3.cap s3.sz):=fun c'=>by
  have o':=o.chg c' (by simp);rw [hrr] at o';exact ⟨o'.cell 1,o'.cell 2,o'.cell 3,o'.cells (j:=4) (m:=4) (show 4+4≤10 by decide),o'.cell 8⟩
 obtain ⟨a1,a2,_,_,_⟩:=rd (Chg.refl _ _);simp only [Nat.zero_add,a1,bA,qA];obtain ⟨H1,e1,c1⟩:=gI (N:=N) (by omega) nm H;rw [e1,aA]
 cases hn:yC nm with
 | false=>exact ⟨_,H1,rfl,c.trans c1,fun h=>by cases h⟩
 | true=>
 obtain ⟨_,a2,a3,_,_⟩:=rd c1;simp only [Bool.not_true,cond_false,a2,a3,bA,jA];have z:ltInt 64 (Int.ofNat s1.len)=decide (64<lv.length):=by rw [y1.len];exact aC 64 _
 rw [z]
 by_cases q:64<lv.length
 ·simp only [q,decide_true,cond_true]
  exact ⟨_,H1,rfl,c.trans c1,fun h=>by cases h⟩
 simp only [q,decide_false,cond_false];obtain ⟨b2,H2,e2,c2,hb2⟩:=rAj (N:=N) (by omega) (mu:=true) t4 (by omega) (by omega) (y2.chg c1 (by simp));have e2':f48 N ⟨s2.a,s2.len,s2.cap,s2.sz⟩ true H1=some (b2,H2):=e2;rw [e2',aA];have c02:=c1.trans c2
 cases b2 with
 | false=>exact ⟨_,H2,rfl,c.trans c02,fun h=>by cases h⟩
 | true=>
 simp only [Bool.not_true,cond_false];obtain ⟨o3,b3,H3,e3,c3,hh⟩:=aAa (N:=N) (by omega) (P:=h.next) (rr:=rr) (lv:=lv) (by omega) t3 (by omega) N 0 H2 (Nat.zero_le _) (by omega) (o.chg c02 (by simp)) (by rw [hrr];exact y1.chg c02 (by simp)) fun j _ h=>by omega
 rw [show ((0:Nat):Int)=0 from rfl] at e3;rw [e3,mB];have c03:=c02.trans c3;rcases hh with ⟨rfl,hlv⟩ | ⟨rfl,rfl⟩
 rotate_left
 ·simp only [eH,cond_false]
  exact ⟨_,H3,rfl,c.trans c03,fun h=>by cases h⟩
 obtain ⟨_,_,_,a4,a8⟩:=rd c03;simp only [mC,decide_true,cond_true,fA,Nat.zero_add];rw [a4,yR];obtain ⟨H4,e4,c4⟩:=bAz (N:=N) (by omega) (M:=N) (by omega) rt H3;have e4':f25 N N (rt.1,rt.2.1,rt.2.2.1,rt.2.2.2.1,()) (0,[],⟨none,0,0,0⟩,⟨none,0,0,0⟩,()) H3=some (zTy rt,H4):=e4;rw [e4',aA];have c04:=c03.trans c4
 -- the body
 have body:∀ (G:Heap),Chg [] H G→∃ b h',(dA (.val zG2) (G.cell (h.next,8)) fun (x38:SL)=>(kA (f88 N N x38 1 G) fun (x39:Bool) h40=>(bif x39 then (dA (.val zG2) (h40.cell (h.next,8)) fun (x42:SL)=>(kA (f35 N N x42 h40) fun (x43:Int) h44=>some (wB x43 2000,h44))) else some (false,h40))))=some (b,h')∧Chg [] h h'∧(b=true→(∀ x∈bd,lP 64 x)∧mJ 64 bd≤2000):=by
  intro G cG;simp only [(rd cG).2.2.2.2,bA,jA];obtain ⟨b5,H5,e5,c5,hb5⟩:=nAs (N:=N) (by omega) 64 N bd s3 G (Nat.le_refl _) (by omega) (by omega) (by omega) t5 (y3.chg cG (by simp));have e5':f88 N N ⟨s3.a,s3.len,s3.cap,s3.sz⟩ 1 G=some (b5,H5):=e5;rw [e5',aA];have cG5:=cG.trans c5
  cases b5 with
  | false=>exact ⟨_,H5,rfl,c.trans cG5,fun h=>by cases h⟩
  | true=>
   simp only [cond_true,(rd cG5).2.2.2.2,bA,jA];obtain ⟨n,H6,e6,c6,hn6,_⟩:=kAk (N:=N) (wtL bd) N bd s3 H5 (Nat.le_refl _) (by omega) (by omega) (by omega) t5 (y3.chg cG5 (by simp));have e6':f35 N N ⟨s3.a,s3.len,s3.cap,s3.sz⟩ H5=some ((n:Int),H6):=e6;rw [e6',aA];refine ⟨_,H6,rfl,(c.trans cG5).trans c6,fun hz=>⟨(hb5 rfl).2,?_⟩⟩;rw [leI,decide_eq_true_eq] at hz
   have:=hn6 64
   omega
 have fin:(ty=ty0D∨gJ 64 ty)→(∀ x∈bd,lP 64 x)∧mJ 64 bd≤2000→mP (fuT pub nm lv ps ty bd a):=fun h1 h2=>⟨pub,nm,lv,ps,ty,bd,a,rfl,hn,⟨by omega,hlv⟩,hb2 rfl,h1,h2.1,h2.2⟩
 cases hz:zTy rt with
 | true=>
  simp only [cond_true,fA,Nat.zero_add];obtain ⟨b,h',e,c',hb⟩:=body H4 c04;refine ⟨b,h',e,c',fun ht=>fin (.inl (kO t1 yt hz)) (hb ht)⟩
 | false=>
  simp only [cond_false,fA,Nat.zero_add];rw [(rd c04).2.2.2.1,yR];obtain ⟨b5,H5,e5,c5,hb5⟩:=vAh (N:=N) (by omega) 64 N H4 rt ty V (by omega) (Nat.le_refl _) (by omega) t2 (Dt.chg c04 (by simp) yt);have e5':f21 N N (rt.1,rt.2.1,rt.2.2.1,rt.2.2.2.1,()) 1 H4=some (b5,H5):=e5;rw [e5',aA]
  cases b5 with
  | false=>exact ⟨_,H5,rfl,(c.trans c04).trans c5,fun h=>by cases h⟩
  | true=>
   simp only [cond_true];obtain ⟨b,h',e,c',hb⟩:=body H5 (c04.trans c5);exact ⟨b,h',e,c',fun ht=>fin (.inr (hb5 rfl)) (hb ht)⟩
end
end Qp
namespace Qp
theorem fA2 {d:D} (h:mayVa d):aAf d:=by
 cases h with
 | op h=>exact ⟨_,_,_,_,_,_,[],[],rfl,tC h,oE,wF,by simp,by simp,by simp⟩
 | ref hk h=>exact ⟨_,_,_,_,_,_,[],[],rfl,oE,oE,rH h,by simp,by simp,by simp⟩
 | no h=>exact ⟨_,_,_,_,_,_,[],[],rfl,tC h,oE,wF,by simp,by simp,by simp⟩
 | bin ha hb hk=>exact ⟨_,_,_,_,_,_,[],[],rfl,tC ha,tC hb,wF,by simp,by simp,by simp⟩
 | @call nm ag hn h=>exact ⟨_,_,_,_,_,_,[],ag,rfl,oE,oE,wF,by simp,by have:=h.1;omega,fun o ho=>tC (h.2 o ho)⟩
 | @make nm ns ag hn hl hs h=>exact ⟨_,_,_,_,_,_,ns,ag,rfl,oE,oE,wF,by have:=h.1;omega,by have:=h.1;omega,fun o ho=>tC (h.2 o ho)⟩
theorem lAk {hs:Bool} {va:D} (h:qAm hs va):aAf va:=by
 rcases h with ⟨_,h⟩ | ⟨_,rfl⟩
 ·exact fA2 h
 ·exact mU
theorem cB0 {n:Nat} {k:Int} {m hs:Bool} {nm:Bs} {ty pl va co:D} {th el:List D} (h:SmN n k m nm ty hs pl va co th el):isTy 65 ty∧isLf pl∧aAf va∧isOp co:=by
 cases h with
 | let_ hn ht hv=>exact ⟨iO ht,wF,lAk hv,oE⟩
 | @set nm xs va hn hx hv=>exact ⟨iP,rH ⟨nm,xs,rfl,hn,hx⟩,fA2 hv,oE⟩
 | call hn h=>exact ⟨iP,wF,fA2 (.call hn h),oE⟩
 | if_ h0 hc he=>exact ⟨iP,wF,mU,tC hc⟩
 | while_ h0 hc=>exact ⟨iP,wF,mU,tC hc⟩
 | loop h0=>exact ⟨iP,wF,mU,oE⟩
 | block h0=>exact ⟨iP,wF,mU,oE⟩
 | break_=>exact ⟨iP,wF,mU,oE⟩
 | cont=>exact ⟨iP,wF,mU,oE⟩
 | ret hv=>exact ⟨iP,wF,lAk hv,oE⟩
 | drop hp=>exact ⟨iP,rH hp,mU,oE⟩
theorem dAt {n:Nat} {l:List D} {x:D} (h:x∈l):mJ n (thD x)+mJ n (elD x)≤(l.map fun d=>mJ n (thD d)+mJ n (elD d)).sum:=by
 induction l with
 | nil=>cases h
 | cons y r ih=>
  rw [List.map_cons,List.sum_cons];rcases List.mem_cons.1 h with rfl | h
  ·omega
  ·have:=ih h;omega
theorem bAa {n:Nat} {l:List D} (hm:∀ x∈l,lP n x):l.length≤mJ n l:=by
 cases n with
 | zero=>
  cases l with
  | nil=>exact Nat.le_refl _
  | cons y r=>exact (hm y (by simp)).elim
 | succ n=>simp only [mJ];omega
theorem eAt:∀ (n:Nat) (l:List D),(∀ x∈l,lP n x)→mJ n l≤2000→∀ x∈l,aW (n+1) x
 | 0,l,hm,_,x,hx=>(hm x hx).elim
 | n+1,l,hm,hc,x,hx=>by
  have hcm:=dAt (n:=n) hx;simp only [mJ] at hc;obtain ⟨k,a,m,nm,ty,hs,pl,va,co,th,el,rfl,h1,h2,h3⟩:=hm x hx;have e1:thD (smT k a m nm ty hs pl va co th el)=th:=rfl;have e2:elD (smT k a m nm ty hs pl va co th el)=el:=rfl;rw [e1,e2] at hcm;have l1:=bAa h1;have l2:=bAa h2;obtain ⟨t1,t2,t3,t4⟩:=cB0 h3;exact ⟨k,a,m,nm,ty,hs,pl,va,co,th,el,rfl,t1,t2,t3,t4,by omega,by omega,eAt n th h1 (by omega),eAt n el h2 (by omega)⟩
theorem gA2 {d:D} (h:lR d):isSt d:=by
 obtain ⟨pub,nm,lv,fs,a,rfl,hn,hl,hf⟩:=h
 have:=hl.1
 have:=hf.1
 exact ⟨pub,nm,lv,fs,a,rfl,by omega,by omega,fun f hf'=>aS (hf.2 f hf')⟩
theorem iA2 {d:D} (h:mP d):isFu d:=by
 obtain ⟨pub,nm,lv,ps,ty,bd,a,rfl,hn,hl,hp,ht,hb,hc⟩:=h
 have:=hl.1
 have:=hp.1
 have:=bAa hb
 refine ⟨pub,nm,lv,ps,ty,bd,a,rfl,by omega,fun l hl'=>dA1 (hl.2 l hl'),by omega,fun p hp'=>aS (hp.2 p hp'),?_,by omega,eAt 64 bd hb hc⟩;rcases ht with rfl | ht
 ·exact iP
 ·exact iO ht
section
variable {N:Nat} {h:Heap} {V:Nat→Prop}
theorem jA2 (hN:3001≤N) {P:Nat} {s1 s2:SL} {xs:List D} (ht:∀ x∈xs,rSt x) (hw:wtL xs≤2000000) (hwN:wtL xs<N):∀ (M i:Nat) (h:Heap),i≤xs.length→xs.length-i<M→h.own P [SL.av s1,SL.av s2]→Sl h V s1 xs→(∀ j,(hj:j<xs.length)→j<i→lR xs[j])→
  ∃ o b h',rA5 N M (some (P,0)) false (i:Int) h=some (o,(some (P,0),b,()),h')∧Chg [] h h'∧((o=.exit 0∧b=false∧∀ x∈xs,lR x)∨(o=.ret∧b=false)):=by
 intro M
 induction M with
 | zero=>intro i h _ h;omega
 | succ M ih=>
  intro i h hi hM o x hp;rw [oA9];unfold wA1;have rd:∀ {G:Heap},G.own P [SL.av s1,SL.av s2]→G.cell (P,0)=some (.slice s1.a s1.len s1.cap s1.sz):=fun o=>o.cell 0;have hv:s1.len=xs.length:=x.len;have hll:=pE xs;simp only [fA,Nat.zero_add,Nat.add_zero,rd o,bA,jA,vF,hv]
  by_cases q:i<xs.length
  ·simp only [q,decide_true,cond_true]
   have hm:=List.getElem_mem q;have hix:∀ {β:Type} (K:Nat×Nat→Option β),ixK s1.a xs.length (i:Int) 5 K=K (s1.at i 5):=fun K=>by rw [← hv];exact x.ix q 5 K
   obtain ⟨r,g,d⟩:=lAs.elt x q (ht _ hm);rw [hix,g,wAv];obtain ⟨h5,p5,c5,o5⟩:=lAs.park (z:=stc st0) rfl h r;have p5':∀ {β:Type} (K:Heap→Option β),tA ((h.push (.row [(.bool false),(.str []),(.slice none 0 0 0),(.slice none 0 0 0),(.int .i64 0)] .own)).store (h.next,0) [(.bool r.1),(.str r.2.1),(.slice r.2.2.1.a r.2.2.1.len r.2.2.1.cap r.2.2.1.sz),(.slice r.2.2.2.1.a r.2.2.2.1.len r.2.2.2.1.cap r.2.2.2.1.sz),(.int .i64 r.2.2.2.2.1)]) K=K h5:=p5;rw [p5'];have nxt:∀ (G:Heap),Chg [] h G→lR xs[i]→∃ o b h',rA5 N M (some (P,0)) false (bB .i64 ((i:Int)+1)) G=some (o,(some (P,0),b,()),h')∧Chg [] h h'∧((o=.exit 0∧b=false∧∀ x∈xs,lR x)∨(o=.ret∧b=false)):=by
    intro G cG hmy;rw [eB (by omega)];obtain ⟨o',b,h',e,c',hh⟩:=ih (i+1) G q (by omega) (o.chg cG (by simp)) (x.chg cG (by simp)) fun j hj hji=>by
     by_cases e:j=i
     ·subst e;exact hmy
     ·exact hp j hj (by omega)
    exact ⟨o',b,h',e,cG.trans c',hh⟩
   have hr:=ht _ hm;have hwd:=yQ hm;generalize xs[i]=y at *;obtain ⟨pub,nm,lv,fs,a,rfl,hfd⟩:=hr;have hwf:wtL fs≤wtD (iAm pub nm lv fs a)∧wtL (lv.map D.s)≤wtD (iAm pub nm lv fs a):=by simp only [iAm,wtD,wtL];omega
   have hlv:=pE (lv.map D.s);rw [List.length_map] at hlv;obtain ⟨u1,u2,hc,y1,y2⟩:=qA4 d;obtain rfl:=lAs.inj (r':=(pub,nm,u1,u2,a,())) hc;have y1:=y1.chg c5 (by simp);have y2:=y2.chg c5 (by simp);have a1:h5.cell (h.next,1)=some (.str nm):=o5.cell 1;simp only [a1,bA,qA];obtain ⟨h6,e6,c6⟩:=gI (N:=N) (by omega) nm h5;rw [e6,aA];have c06:=c5.trans c6
   cases hn:yC nm with
   | false=>
    simp only [Bool.not_false,cond_true];exact ⟨_,_,h6,rfl,c06,.inr ⟨rfl,rfl⟩⟩
   | true=>
    have o6:=o5.chg c6 (by simp);have a2:h6.cell (h.next,2)=some (.slice u1.a u1.len u1.cap u1.sz):=o6.cell 2;have a3:h6.cell (h.next,3)=some (.slice u2.a u2.len u2.cap u2.sz):=o6.cell 3;simp only [Bool.not_true,cond_false,a2,bA,jA];obtain ⟨b,e,hb⟩:=nAb (N:=N) (y1.chg c6 (by simp)) (by omega) (by omega);have e':f47 N ⟨u1.a,u1.len,u1.cap,u1.sz⟩ h6=some (b,h6):=e;rw [e',aA]
    cases b with
    | false=>
     simp only [Bool.not_false,cond_true];exact ⟨_,_,h6,rfl,c06,.inr ⟨rfl,rfl⟩⟩
    | true=>
     simp only [Bool.not_true,cond_false,a3,bA,jA];obtain ⟨b2,h7,e7,c7,hb2⟩:=rAj (N:=N) (by omega) (mu:=false) hfd (by omega) (by omega) (y2.chg c6 (by simp));have e7':f48 N ⟨u2.a,u2.len,u2.cap,u2.sz⟩ false h6=some (b2,h7):=e7;rw [e7',aA];have c07:=c06.trans c7
     cases b2 with
     | false=>
      simp only [Bool.not_false,cond_true];exact ⟨_,_,h7,rfl,c07,.inr ⟨rfl,rfl⟩⟩
     | true=>
      simp only [Bool.not_true,cond_false];exact nxt h7 c07 ⟨pub,nm,lv,fs,a,rfl,hn,hb rfl,hb2 rfl⟩
  ·simp only [q,decide_false,cond_false]
   refine ⟨_,_,h,rfl,Chg.refl _ _,.inl ⟨rfl,rfl,fun y hy=>?_⟩⟩;obtain ⟨j,hj,rfl⟩:=List.getElem_of_mem hy;exact hp j hj (by omega)
theorem cAa (hN:3001≤N) {P:Nat} {s1 s2:SL} {ys:List D} (ht:∀ x∈ys,rFu x) (hw:wtL ys≤2000000) (hwN:wtL ys<N):∀ (M i:Nat) (h:Heap),i≤ys.length→ys.length-i<M→h.own P [SL.av s1,SL.av s2]→Sl h V s2 ys→(∀ j,(hj:j<ys.length)→j<i→mP ys[j])→
  ∃ o b h',oAc N M (some (P,0)) false (i:Int) h=some (o,(b,()),h')∧Chg [] h h'∧((o=.exit 2∧∀ x∈ys,mP x)∨(o=.ret∧b=false)):=by
 intro M
 induction M with
 | zero=>intro i h _ h;omega
 | succ M ih=>
  intro i h hi hM o x hp;rw [nA9];unfold vA1;have rd:∀ {G:Heap},G.own P [SL.av s1,SL.av s2]→G.cell (P,1)=some (.slice s2.a s2.len s2.cap s2.sz):=fun o=>o.cell 1;have hv:s2.len=ys.length:=x.len;have hll:=pE ys;simp only [fA,Nat.zero_add,Nat.add_zero,rd o,bA,jA,vF,hv]
  by_cases q:i<ys.length
  ·simp only [q,decide_true,cond_true]
   have hm:=List.getElem_mem q;have hix:∀ {β:Type} (K:Nat×Nat→Option β),ixK s2.a ys.length (i:Int) 10 K=K (s2.at i 10):=fun K=>by rw [← hv];exact x.ix q 10 K
   obtain ⟨r,g,d⟩:=eAz.elt x q (ht _ hm);have hwd:=yQ hm;rw [hix,g,rAt];obtain ⟨b,h6,e6,c6,hb⟩:=cAt (N:=N) hN (ht _ hm) (by omega) (by omega) d;have e6':f49 N (tF r) h=some (b,h6):=e6;rw [e6',aA]
   cases b with
   | false=>
    simp only [Bool.not_false,cond_true];exact ⟨_,_,h6,rfl,c6,.inr ⟨rfl,rfl⟩⟩
   | true=>
    simp only [Bool.not_true,cond_false];rw [eB (by omega)];obtain ⟨o',b,h',e,c',hh⟩:=ih (i+1) h6 q (by omega) (o.chg c6 (by simp)) (x.chg c6 (by simp)) fun j hj hji=>by
     by_cases e:j=i
     ·subst e;exact hb rfl
     ·exact hp j hj (by omega)
    exact ⟨o',b,h',e,c6.trans c',hh⟩
  ·simp only [q,decide_false,cond_false]
   refine ⟨_,_,h,rfl,Chg.refl _ _,.inl ⟨rfl,fun y hy=>?_⟩⟩;obtain ⟨j,hj,rfl⟩:=List.getElem_of_mem hy;exact hp j hj (by omega)
theorem fAt (hN:3001≤N) {xs ys:List D} (hx:∀ x∈xs,rSt x) (hy:∀ y∈ys,rFu y) (hw:wtL xs+wtL ys≤2000000) (hwN:wtL xs+wtL ys<N) {s1 s2:SL} (y1:Sl h V s1 xs) (y2:Sl h V s2 ys):∃ b h',f19 N (s1,s2,()) h=some (b,h')∧Chg [] h h'∧(b=true→xs.length+ys.length≤256∧(∀ x∈xs,lR x)∧∀ y∈ys,mP y):=by
 unfold f19;have o:=vA h [SL.av s1,SL.av s2];have c:=uA h (.row [SL.av s1,SL.av s2] .own);have e1:h.push (.row [(.slice s1.a s1.len s1.cap s1.sz),(.slice s2.a s2.len s2.cap s2.sz)] .own)=h.push (.row [SL.av s1,SL.av s2] .own):=rfl;dsimp only;rw [e1];have y1:=y1.chg c (by simp);have y2:=y2.chg c (by simp);generalize h.push (.row [SL.av s1,SL.av s2] .own)=H at *;have a0:H.cell (h.next,0)=some (.slice s1.a s1.len s1.cap s1.sz):=o.cell 0;have a1:H.cell (h.next,1)=some (.slice s2.a s2.len s2.cap s2.sz):=o.cell 1;have l1:s1.len=xs.length:=y1.len;have l2:s2.len=ys.length:=y2.len;have hl1:=pE xs;have hl2:=pE ys;simp only [Nat.zero_add,a0,a1,bA,jA];have z:ltInt 256 (Int.ofNat s1.len)=decide (256<xs.length):=by rw [l1];exact aC 256 _
 rw [z]
 by_cases q:256<xs.length
 ·simp only [q,decide_true,cond_true]
  exact ⟨_,H,rfl,c,fun h=>by cases h⟩
 simp only [q,decide_false,cond_false];have z2:ltInt (bB .i64 (256-Int.ofNat s1.len)) (Int.ofNat s2.len)=decide (256<xs.length+ys.length):=by
  rw [l1,l2];show ltInt (bB .i64 (256-(xs.length:Int))) (ys.length:Int)=_;rw [lD (by omega) (by omega),ltI]
  by_cases hq:256<xs.length+ys.length
  ·rw [decide_eq_true hq,decide_eq_true];omega
  ·rw [decide_eq_false hq,decide_eq_false];omega
 rw [z2]
 by_cases q2:256<xs.length+ys.length
 ·simp only [q2,decide_true,cond_true]
  exact ⟨_,H,rfl,c,fun h=>by cases h⟩
 simp only [q2,decide_false,cond_false];obtain ⟨o3,b3,H3,e3,c3,hh⟩:=jA2 (N:=N) hN (P:=h.next) (s1:=s1) (s2:=s2) hx (by omega) (by omega) N 0 H (Nat.zero_le _) (by omega) o y1 fun j _ h=>by omega
 rw [show ((0:Nat):Int)=0 from rfl] at e3;rw [e3,mB];rcases hh with ⟨rfl,rfl,hxs⟩ | ⟨rfl,rfl⟩
 ·simp only [mC,decide_true,cond_true]
  obtain ⟨o4,b4,H4,e4,c4,hh⟩:=cAa (N:=N) hN (P:=h.next) (s1:=s1) (s2:=s2) hy (by omega) (by omega) N 0 H3 (Nat.zero_le _) (by omega) (o.chg c3 (by simp)) (y2.chg c3 (by simp)) fun j _ h=>by omega
  rw [show ((0:Nat):Int)=0 from rfl] at e4;rw [e4,mB];rcases hh with ⟨rfl,hys⟩ | ⟨rfl,rfl⟩
  ·simp only [mC,decide_true,cond_true]
   exact ⟨_,H4,rfl,(c.trans c3).trans c4,fun _=>⟨by omega,hxs,hys⟩⟩
  ·simp only [eH,cond_false]
   exact ⟨_,H4,rfl,(c.trans c3).trans c4,fun h=>by cases h⟩
 ·simp only [eH,cond_false]
  exact ⟨_,H3,rfl,c.trans c3,fun h=>by cases h⟩
end
end Qp
namespace Qp
section
variable {N:Nat} {h:Heap} {V:Nat→Prop}
theorem dAa (hN:3001≤N) {P:Nat} {s1 s2:SL} {ys:List D} (ht:∀ x∈ys,rFu x) (hw:wtL ys≤2000000) (hwN:wtL ys<N):∀ (M i:Nat) (h:Heap),i≤ys.length→ys.length-i<M→h.own P [SL.av s1,SL.av s2]→Sl h V s2 ys→
  ∃ o b h',gAc N M (some (P,0)) false (i:Int) h=some (o,(b,()),h')∧Chg [] h h':=by
 intro M
 induction M with
 | zero=>intro i h _ h;omega
 | succ M ih=>
  intro i h hi hM o x;rw [yA8];unfold jA1;have rd:∀ {G:Heap},Chg [] h G→G.cell (P,1)=some (.slice s2.a s2.len s2.cap s2.sz):=fun c=>(o.chg c (by simp)).cell 1;have hv:s2.len=ys.length:=x.len;have hll:=pE ys;simp only [fA,Nat.zero_add,Nat.add_zero,rd (Chg.refl _ _),bA,jA,vF,hv]
  by_cases q:i<ys.length
  ·simp only [q,decide_true,cond_true]
   have hm:=List.getElem_mem q;have hix:∀ {β:Type} (K:Nat×Nat→Option β),ixK s2.a ys.length (i:Int) 10 K=K (s2.at i 10):=fun K=>by rw [← hv];exact x.ix q 10 K
   obtain ⟨pub,nm,lv,ps,ty,bd,a,hd,t1,t2,t3,t4,t5⟩:=ht _ hm;have hwd:=yQ hm;have hwb:wtL bd≤wtD ys[i]:=by rw [hd];simp only [fuT,wtD,wtL];omega
   obtain ⟨cs,e⟩:=x.elt q;have hdt:=e.dt;rw [hd] at hdt;obtain ⟨u1,u2,u3,rt,hc,z1,z2,zt,z3⟩:=qAj t1 hdt;have hz:s2.sz=10:=by rw [← e.len,hc];rfl
   have e8:=e.cell 8 (by rw [hz];decide);rw [hz,hc] at e8;have e8':∀ {G:Heap},Chg [] h G→G.cell ((s2.at i 10).1,(s2.at i 10).2+8)=some (.slice u3.a u3.len u3.cap u3.sz):=@fun G c=>by
    have eq:G.t.get (s2.at i 10).1=h.t.get (s2.at i 10).1:=c.g _ (mL x q) (by simp)
    have:G.cell ((s2.at i 10).1,(s2.at i 10).2+8)=h.cell ((s2.at i 10).1,(s2.at i 10).2+8):=by simp only [Heap.cell,Heap.row,eq]
    rw [this];exact e8
   rw [hix,e8' (Chg.refl _ _)];simp only [bA,jA];obtain ⟨n1,h1,e1,c1⟩:=bAt (N:=N) (wtL bd) N bd u3 70 h (Nat.le_refl _) (by omega) (by omega) (by omega) t5 z3;have e1':f34 N N ⟨u3.a,u3.len,u3.cap,u3.sz⟩ 70 h=some (n1,h1):=e1;rw [e1',aA]
   cases ltInt 68 n1 with
   | true=>
    simp only [cond_true];exact ⟨_,_,h1,rfl,c1⟩
   | false=>
    simp only [cond_false,fA,Nat.zero_add,rd c1,bA,jA,hv];rw [hix,e8' c1];simp only [bA,jA]
    cases ltInt 2100 (Int.ofNat u3.len) with
    | true=>
     simp only [cond_true];exact ⟨_,_,h1,rfl,c1⟩
    | false=>
     simp only [cond_false,fA,Nat.zero_add,rd c1,bA,jA,hv];rw [hix,e8' c1];simp only [bA,jA];obtain ⟨n2,h2,e2,c2,_⟩:=kAk (N:=N) (wtL bd) N bd u3 h1 (Nat.le_refl _) (by omega) (by omega) (by omega) t5 (z3.chg c1 (by simp));have e2':f35 N N ⟨u3.a,u3.len,u3.cap,u3.sz⟩ h1=some ((n2:Int),h2):=e2;rw [e2',aA];have c02:=c1.trans c2
     cases ltInt 2100 (n2:Int) with
     | true=>
      simp only [cond_true];exact ⟨_,_,h2,rfl,c02⟩
     | false=>
      simp only [cond_false];rw [eB (by omega)];obtain ⟨o',b,h',e',c'⟩:=ih (i+1) h2 q (by omega) (o.chg c02 (by simp)) (x.chg c02 (by simp));exact ⟨o',b,h',e',c02.trans c'⟩
  ·simp only [q,decide_false,cond_false]
   exact ⟨_,_,h,rfl,Chg.refl _ _⟩
theorem gAt (hN:3001≤N) {xs ys:List D} (hy:∀ y∈ys,rFu y) (hw:wtL xs+wtL ys≤2000000) (hwN:wtL xs+wtL ys<N) {s1 s2:SL} (y1:Sl h V s1 xs) (y2:Sl h V s2 ys):∃ b h',f14 N (s1,s2,()) h=some (b,h')∧Chg [] h h':=by
 unfold f14;have o:=vA h [SL.av s1,SL.av s2];have c:=uA h (.row [SL.av s1,SL.av s2] .own);have e1:h.push (.row [(.slice s1.a s1.len s1.cap s1.sz),(.slice s2.a s2.len s2.cap s2.sz)] .own)=h.push (.row [SL.av s1,SL.av s2] .own):=rfl;dsimp only;rw [e1];have y1:=y1.chg c (by simp);have y2:=y2.chg c (by simp);generalize h.push (.row [SL.av s1,SL.av s2] .own)=H at *;have a0:H.cell (h.next,0)=some (.slice s1.a s1.len s1.cap s1.sz):=o.cell 0;have a1:H.cell (h.next,1)=some (.slice s2.a s2.len s2.cap s2.sz):=o.cell 1;have hl2:=pE ys;simp only [Nat.zero_add,a0,a1,bA,jA]
 cases ltInt 300 (Int.ofNat s1.len) with
 | true=>
  simp only [cond_true];exact ⟨_,H,rfl,c⟩
 | false=>
  simp only [cond_false]
  cases ltInt 300 (Int.ofNat s2.len) with
  | true=>
   simp only [cond_true];exact ⟨_,H,rfl,c⟩
  | false=>
   simp only [cond_false];obtain ⟨o3,b3,H3,e3,c3⟩:=dAa (N:=N) hN (P:=h.next) (s1:=s1) (s2:=s2) hy (by omega) (by omega) N 0 H (Nat.zero_le _) (by omega) o y2;rw [show ((0:Nat):Int)=0 from rfl] at e3;rw [e3,mB]
   cases bD o3 (.exit 0) with
   | true=>exact ⟨_,H3,rfl,c.trans c3⟩
   | false=>exact ⟨_,H3,rfl,c.trans c3⟩
end
end Qp
namespace Qp
section
variable {N:Nat} {h:Heap} {V:Nat→Prop}
theorem yA5 {A n:Nat} {cs:List AV} {xs:List D} (o:h.own A cs) (d:De h V n xs cs) (hV:V A) (hl:cs.length=xs.length * n):Sl h V ⟨some (A,0),xs.length,xs.length,n⟩ xs:=
 ⟨rfl,Nat.le_refl _,fun B hB=>by
  have:some A=some B:=hB
  simp only [Option.some.injEq] at this;subst this;exact hV,cs,⟨hl,fun ha=>(by cases ha),fun B off ha=>by
  simp only [Option.some.injEq,Prod.mk.injEq] at ha;obtain ⟨rfl,rfl⟩:=ha;exact ⟨o.2,cs,by rw [o.1];rfl,by rw [List.drop_zero,List.take_length]⟩⟩,d⟩
def fnE:D:=fuT false [102] [] [] ty0D [] 0
theorem mAk:mP fnE:=⟨false,[102],[],[],ty0D,[],0,rfl,by decide,⟨by simp,by simp⟩,⟨by simp,by simp⟩,.inl rfl,by simp,by decide⟩
theorem iAt:crX [] [fnE]=[102,110,32,102,40,41,32,123,10,125,10]:=by
 unfold crX fuX fnE hdX bdX eA2
 decide
def rfE:PT:=.ref true [[97]] .int
theorem jAt:tyX 64 rfE.D=[38,39,97,32,109,117,116,32,105,110,116]:=by decide
theorem bAd (hN:3001≤N) (pk:PK h):∃ h',f15 N h=some (true,h')∧Chg [] h h':=by
 unfold f15;have o1:=vA h (fuc (jAm false [102] 0));have c1:=uA h (.row (fuc (jAm false [102] 0)) .own);have e1:h.push (.row [(.bool false),(.str [102]),(.slice none 0 0 0),(.slice none 0 0 0),(.int .i64 0),(.str []),(.slice none 0 0 0),(.slice none 0 0 0),(.slice none 0 0 0),(.int .i64 0)] .own)=h.push (.row (fuc (jAm false [102] 0)) .own):=rfl;dsimp only;rw [e1];have pk1:=pk.chg c1;generalize h.push (.row (fuc (jAm false [102] 0)) .own)=H1 at *;have ty0:Dt H1 (fun _=>True) ty0D (tyc mA4):=jG.2 ⟨_,_,rfl,Sl.nil _ _ _,Sl.nil _ _ _⟩;have df:Dt H1 (fun _=>True) fnE (fuc (jAm false [102] 0)):=iAw (Sl.nil _ _ _) (Sl.nil _ _ _) ty0 (Sl.nil _ _ _);have dE:De H1 (fun _=>True) 10 [fnE] (fuc (jAm false [102] 0)):=by
  have:=df
  simp only [De];exact ⟨_,[],(List.append_nil _).symm,rfl,df,rfl⟩
 have y2:Sl H1 (fun _=>True) ⟨some (h.next,0),1,1,10⟩ [fnE]:=yA5 o1 dE trivial rfl;obtain ⟨r,H3,e3,c3,pr⟩:=aAd (N:=N) hN (xs:=[]) (ys:=[fnE]) (by simp) (fun y hy=>by rw [List.mem_singleton.1 hy];exact mAk) (by simp) (fun y hy=>by rw [List.mem_singleton.1 hy];exact iA2 mAk) (by simp) pk1 (Sl.nil _ _ 0) y2;rw [e3,aA];rw [iAt] at pr;have hr:r=([102,110,32,102,40,41,32,123,10,125,10],AV.nilIface,()):=by
  rcases pr with ⟨_,pr⟩ | ⟨hl,_⟩
  ·exact pr
  ·exact absurd hl (by decide)
 subst hr;dsimp only;rw [eq_nil];simp only [bA,kB,cond_true];rw [show aB [102,110,32,102,40,41,32,123,10,125,10] [102,110,32,102,40,41,32,123,10,125,10]=true from rfl];simp only [cond_true]
 -- a type
 have o6:=vA H3 [.str [97]];have c6:=uA H3 (.row [.str [97]] .own);generalize H3.push (.row [(.str [97])] .own)=H6 at *;have o7:=vA H6 (tyc (1,[],zs,zs,()));have c7:=uA H6 (.row (tyc (1,[],zs,zs,())) .own);have e7:H6.push (.row [(.int .i64 1),(.str []),(.slice none 0 0 0),(.slice none 0 0 0)] .own)=H6.push (.row (tyc (1,[],zs,zs,())) .own):=rfl;rw [e7];have o67:=o6.chg c7 (by simp);generalize H6.push (.row (tyc (1,[],zs,zs,())) .own)=H7 at *;have dI:Dt H7 (fun _=>True) PT.int.D (tyc (1,[],zs,zs,())):=jG.2 ⟨_,_,rfl,Sl.nil _ _ _,Sl.nil _ _ _⟩;have s1:Sl H7 (fun _=>True) ⟨some (H3.next,0),1,1,1⟩ (([[97]]:List Bs).map D.s):=yA5 (xs:=([[97]]:List Bs).map D.s) o67 (by
  show De H7 (fun _=>True) 1 [D.s [97]] [.str [97]];simp only [De,Dt];exact ⟨[_],[],rfl,rfl,rfl,rfl⟩) trivial rfl
 have dE2:De H7 (fun _=>True) 4 [PT.int.D] (tyc (1,[],zs,zs,())):=by
  simp only [De];exact ⟨_,[],(List.append_nil _).symm,rfl,dI,rfl⟩
 have s2:Sl H7 (fun _=>True) ⟨some (H6.next,0),1,1,4⟩ [PT.int.D]:=yA5 o7 dE2 trivial rfl;have dR:Dt H7 (fun _=>True) rfE.D (tyc (5,[],⟨some (H3.next,0),1,1,1⟩,⟨some (H6.next,0),1,1,4⟩,())):=jG.2 ⟨_,_,rfl,s1,s2⟩;have hm:gJ 64 rfE.D:=⟨rfE,rfl,by simp [PT.ok,rfE];decide⟩;obtain ⟨H9,e9,c9⟩:=cA2 hm (by omega:100≤N) dR;rw [jAt] at e9;rw [e9,aA];rw [show aB [38,39,97,32,109,117,116,32,105,110,116] [38,39,97,32,109,117,116,32,105,110,116]=true from rfl];simp only [cond_true]
 -- a head
 have oB:=vA H9 [.str [98]];have cB:=uA H9 (.row [.str [98]] .own);generalize H9.push (.row [(.str [98])] .own)=HB at *;have oC:=vA HB [.str [97],.slice (some (H9.next,0)) 1 1 1,.str [98],.slice none 0 0 0];have cC:=uA HB (.row [.str [97],.slice (some (H9.next,0)) 1 1 1,.str [98],.slice none 0 0 0] .own);have oBC:=oB.chg cC (by simp);generalize HB.push (.row [(.str [97]),(.slice (some (H9.next,0)) 1 1 1),(.str [98]),(.slice none 0 0 0)] .own)=HC at *;have t1:Sl HC (fun _=>True) ⟨some (H9.next,0),1,1,1⟩ (([[98]]:List Bs).map D.s):=yA5 (xs:=([[98]]:List Bs).map D.s) oBC (by
  show De HC (fun _=>True) 1 [D.s [98]] [.str [98]];simp only [De,Dt];exact ⟨[_],[],rfl,rfl,rfl,rfl⟩) trivial rfl
 have d1:Dt HC (fun _=>True) (gE [97] (([[98]]:List Bs).map D.s)) (lfc ([97],⟨some (H9.next,0),1,1,1⟩,())):=oA7 t1;have d2:Dt HC (fun _=>True) (gE [98] (([]:List Bs).map D.s)) (lfc ([98],zs,())):=oA7 (Sl.nil _ _ _);have t2:Sl HC (fun _=>True) ⟨some (HB.next,0),2,2,2⟩ [gE [97] (([[98]]:List Bs).map D.s),gE [98] (([]:List Bs).map D.s)]:=yA5 (xs:=[gE [97] (([[98]]:List Bs).map D.s),gE [98] (([]:List Bs).map D.s)]) oC (by
  simp only [De];exact ⟨lfc ([97],⟨some (H9.next,0),1,1,1⟩,()),lfc ([98],zs,()),rfl,rfl,d1,_,[],rfl,rfl,d2,rfl⟩) trivial rfl
 have hlf:jP 64 kR [gE [97] (([[98]]:List Bs).map D.s),gE [98] (([]:List Bs).map D.s)]:=⟨by simp,fun x hx=>by
  simp only [List.mem_cons,List.not_mem_nil,or_false] at hx;rcases hx with rfl | rfl
  ·exact ⟨[97],[[98]],rfl,by decide,by simp,by simp;decide⟩
  ·exact ⟨[98],[],rfl,by decide,by simp,by simp⟩⟩
 have ty0':Dt HC (fun _=>True) ty0D (tyc mA4):=jG.2 ⟨_,_,rfl,Sl.nil _ _ _,Sl.nil _ _ _⟩;obtain ⟨HE,eE,cE⟩:=iAk (N:=N) (by omega) (⟨true,[102],⟨some (HB.next,0),2,2,2⟩,zs,mA4,zs,0⟩:FuR) (lv:=[gE [97] (([[98]]:List Bs).map D.s),gE [98] (([]:List Bs).map D.s)]) (ps:=[]) (ty:=ty0D) (show yC [102]=true by decide) hlf ⟨by simp,by simp⟩ (.inl rfl) t2 (Sl.nil _ _ _) ty0';have hx:eA2 true [102] [gE [97] (([[98]]:List Bs).map D.s),gE [98] (([]:List Bs).map D.s)] [] ty0D=[112,117,98,32,102,110,32,102,60,39,97,58,32,39,98,44,32,39,98,62,40,41]:=by decide
 have eE':f20 N (true,[102],⟨(some (HB.next,0)),2,2,2⟩,⟨none,0,0,0⟩,0,[],⟨none,0,0,0⟩,⟨none,0,0,0⟩,⟨none,0,0,0⟩,0,()) HC=some ([112,117,98,32,102,110,32,102,60,39,97,58,32,39,98,44,32,39,98,62,40,41],HE):=by rw [← hx];exact eE
 rw [eE',aA];refine ⟨HE,?_,?_⟩
 ·rfl
 ·exact ((((((c1.trans c3).trans c6).trans c7).trans c9).trans cB).trans cC).trans cE
end
end Qp
end Go.Proofs.YtkcjphhjmlienaaGreatDoor

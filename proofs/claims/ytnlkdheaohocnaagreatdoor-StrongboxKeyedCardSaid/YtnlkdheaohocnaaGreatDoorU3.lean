/- Whoever walks down with the secret signs what whoever walks down without it verifies, and the text of either walks the same way (StrongboxKeyed). No condition. -/
import Derived.Test.YtnlkdheaohocnaaGreatDoorU1
import Derived.WalkKit
import Derived.Test.YtnlkdheaohocnaaGreatDoorRows
import Derived.WalkSpells
import Derived.WalkLawsBesides
import Derived.Lib.Hide
set_option maxRecDepth 1000000
set_option maxHeartbeats 16000000
set_option linter.unusedVariables false
set_option linter.unusedSimpArgs false
namespace Go.Proofs.YtnlkdheaohocnaaGreatDoor
open Go
theorem xY (x:BitVec 64) (n:Nat) (h0:0<n) (h1:n<64):
 bits .or .u64 ((x.toNat:Int)*2^n%18446744073709551616) ((x.toNat:Int)/2^(64-n))=((x.rotateLeft n).toNat:Int):=by
 have hx:=x.isLt;have e1:((x.toNat:Int)*2^n%18446744073709551616)=((x.toNat*2^n%18446744073709551616:Nat):Int):=by simp
 have e2:((x.toNat:Int)/2^(64-n))=((x.toNat/2^(64-n):Nat):Int):=by simp
 rw[e1,e2,u64_or_nat _ _ (Nat.mod_lt _ (by omega)) (Nat.lt_of_le_of_lt (Nat.div_le_self _ _) hx)];congr 1;rw[BitVec.rotateLeft_def,BitVec.toNat_or,BitVec.toNat_shiftLeft,BitVec.toNat_ushiftRight,adu h1,Nat.shiftLeft_eq,Nat.shiftRight_eq_div_pow]
theorem zZ (x:BitVec 64) (n:Nat) (h0:0<n) (h1:n<64):x.rotateLeft (64-n)=x.rotateRight n:=by
 rw[BitVec.rotateLeft_def,BitVec.rotateRight_def,adu h1,adu (by omega),show 64-(64-n)=n by omega,BitVec.or_comm]
theorem vG (n:Nat) (h0:0<n) (h1:n<64):bits .and .u64 (IntKind.u64.wrap (-(n:Int))) 63=((64-n:Nat):Int):=by
 have:∀n:Fin 64,0<n.val→bits .and .u64 (IntKind.u64.wrap (-(n.val:Int))) 63=((64-n.val:Nat):Int):=by decide
 exact this ⟨n,h1⟩ h0
theorem nW (a b:Nat) (ha:a<4294967296) (hb:b<4294967296):bits .or .u32 (a:Int) (b:Int)=((a ||| b:Nat):Int):=u32_or_nat a b ha hb
theorem tI (x:BitVec 32) (n:Nat) (h0:0<n) (h1:n<32):
 bits .or .u32 ((x.toNat:Int)*2^n%4294967296) ((x.toNat:Int)/2^(32-n))=((x.rotateLeft n).toNat:Int):=by
 have hx:=x.isLt;have e1:((x.toNat:Int)*2^n%4294967296)=((x.toNat*2^n%4294967296:Nat):Int):=by simp
 have e2:((x.toNat:Int)/2^(32-n))=((x.toNat/2^(32-n):Nat):Int):=by simp
 rw[e1,e2,nW _ _ (Nat.mod_lt _ (by omega)) (Nat.lt_of_le_of_lt (Nat.div_le_self _ _) hx)];congr 1;rw[BitVec.rotateLeft_def,BitVec.toNat_or,BitVec.toNat_shiftLeft,BitVec.toNat_ushiftRight,adu h1,Nat.shiftLeft_eq,Nat.shiftRight_eq_div_pow]
theorem Gw (x:BitVec 32) (n:Nat) (h0:0<n) (h1:n<32):x.rotateLeft (32-n)=x.rotateRight n:=by
 rw[BitVec.rotateLeft_def,BitVec.rotateRight_def,adu h1,adu (by omega),show 32-(32-n)=n by omega,BitVec.or_comm]
theorem Ab (n:Nat) (h0:0<n) (h1:n<32):bits .and .u64 (IntKind.u64.wrap (-(n:Int))) 31=((32-n:Nat):Int):=by
 have:∀n:Fin 32,0<n.val→bits .and .u64 (IntKind.u64.wrap (-(n.val:Int))) 31=((32-n.val:Nat):Int):=by decide
 exact this ⟨n,h1⟩ h0
end Go.Proofs.YtnlkdheaohocnaaGreatDoor
namespace Go.Proofs.YtnlkdheaohocnaaGreatDoor
open Go.RowKit
theorem ri (x:BitVec 32) (n:Nat) (h0:0<n) (h1:n<32) (w:World):
 Calls Tryz.prog 129 #[.int .u32 (x.toNat:Int),.int .i64 (-(n:Int))] w fun e w'=>e=.returned (.int .u32 ((x.rotateRight n).toNat:Int))∧w=w':=by
 obtain⟨m,hm⟩:∃m,m=32-n:=⟨_,rfl⟩;have hb:bits .and .u64 (IntKind.u64.wrap (-(n:Int))) 31=(m:Int):=by rw[hm];exact Ab n h0 h1
 have h2:0<m:=by omega
 have h3:m<32:=by omega
 rw[←Gw x n h0 h1,←hm];clear hm h0 h1;go_enter Tryz.func129,Tryz.ntmps129;go_wp2;go_ret;exact⟨by rw[←tI x m h2 h3];rfl,rfl⟩
theorem eW (x:BitVec 32) (n:Nat) (h0:0<n) (h1:n<32) (w:World):
 Calls Tryz.prog 127 #[.int .u32 (x.toNat:Int),.int .i64 n] w fun e w'=>e=.returned (.int .u32 ((x.rotateRight n).toNat:Int))∧w=w':=by
 go_enter Tryz.func127,Tryz.ntmps127;go_wp2_with (go_at_call 129;refine(ri x n h0 h1 _).mono ?_;rintro e w' ⟨rfl,rfl⟩);go_ret;exact⟨rfl,rfl⟩
end Go.Proofs.YtnlkdheaohocnaaGreatDoor
namespace Go.Proofs.YtnlkdheaohocnaaGreatDoor
structure Fld (n:Nat) [NeZero n] (inv:Fin n→Fin n):Prop where
 dom:∀a b:Fin n,a*b=0→a=0∨b=0
 inv:∀a,a≠0→a*inv a=1
 two:(2:Fin n)≠0
 three:(3:Fin n)≠0
 no2:∀x:Fin n,x*x*x+7≠0
section
variable {n:Nat} [NeZero n] {inv:Fin n→Fin n}
abbrev Pt (n:Nat):=Option (Fin n×Fin n)
def Pt.On:Pt n→Prop
 |none=>True
 |some (x,y)=>y*y=x*x*x+7
def jQ (inv:Fin n→Fin n) (x1 y1 x2 y2:Fin n):Fin n:=if x1=x2 then 3*(x1*x1)*inv (2*y1) else (y2-y1)*inv (x2-x1)
def iw (s x1 y1 x2:Fin n):Fin n×Fin n:=(s*s-x1-x2,s*(x1-(s*s-x1-x2))-y1)
def cZ (inv:Fin n→Fin n):Pt n→Pt n→Pt n
 |none,Q=>Q
 |some p,none=>some p
 |some (x1,y1),some (x2,y2)=>if x1=x2∧y1+y2=0 then none else some (iw (jQ inv x1 y1 x2 y2) x1 y1 x2)
theorem fM (inv:Fin n→Fin n) (x1 y1 x2 y2:Fin n):cZ inv (some (x1,y1)) (some (x2,y2))=if x1=x2∧y1+y2=0 then none else some (iw (jQ inv x1 y1 x2 y2) x1 y1 x2):=rfl
def zQ (s x1 y1 x2 y2:Fin n):Prop:=s*(x2-x1)=y2-y1∧s*(y1+y2)=x1*x1+x1*x2+x2*x2
theorem Fld.ne (hF:Fld n inv) {a b:Fin n} (ha:a≠0) (hb:b≠0):a*b≠0:=fun h=>(hF.dom a b h).elim ha hb
theorem Fld.cancel (hF:Fld n inv) {a b c:Fin n} (ha:a≠0) (h:a*b=a*c):b=c:=by
 have h1:a*(b-c)=0:=by grind
 rcases hF.dom _ _ h1 with h2|h2
 · exact absurd h2 ha
 grind
theorem Fld.y0 (hF:Fld n inv) {x y:Fin n} (h:y*y=x*x*x+7):y≠0:=fun h0=>hF.no2 x (by rw[←h,h0];grind)
theorem cO (hF:Fld n inv) {x1 y1 x2 y2:Fin n} (h1:y1*y1=x1*x1*x1+7) (h2:y2*y2=x2*x2*x2+7) (bN:¬(x1=x2∧y1+y2=0)):zQ (jQ inv x1 y1 x2 y2) x1 y1 x2 y2:=by
 unfold jQ;split
 · rename_i he
   subst he;have hn:y1+y2≠0:=fun h=>bN ⟨rfl,h⟩
   have h3:(y1+y2)*(y1-y2)=0:=by grind
   have h4:y1=y2:=by
    rcases hF.dom _ _ h3 with h|h
    · exact absurd h hn
    grind
   subst h4;have h5:=hF.inv (2*y1) (by grind);exact⟨by grind,by grind⟩
 rename_i he;have hd:x2-x1≠0:=fun h=>he (by grind)
 have h5:=hF.inv _ hd;have h6:(y2-y1)*inv (x2-x1)*(x2-x1)=y2-y1:=by grind
 refine⟨h6,hF.cancel hd ?_⟩
 grind
theorem D1 (hF:Fld n inv) {s t x1 y1 x2 y2:Fin n} (bN:¬(x1=x2∧y1+y2=0)) (h1:zQ s x1 y1 x2 y2) (h2:zQ t x1 y1 x2 y2):s=t:=by
 obtain⟨a1,a2⟩:=h1;obtain⟨b1,b2⟩:=h2
 by_cases hx:x1=x2
 · have hn:y1+y2≠0:=fun h=>bN ⟨hx,h⟩
   exact hF.cancel hn (by grind)
 have hd:x2-x1≠0:=fun h=>hx (by grind)
 exact hF.cancel hd (by grind)
theorem l4 {s x1 y1 x2 y2:Fin n} (h1:y1*y1=x1*x1*x1+7) (hs:zQ s x1 y1 x2 y2):Pt.On (some (iw s x1 y1 x2)):=by
 obtain⟨a1,a2⟩:=hs;show (s*(x1-(s*s-x1-x2))-y1)*(s*(x1-(s*s-x1-x2))-y1)=(s*s-x1-x2)*(s*s-x1-x2)*(s*s-x1-x2)+7;have h3:y2=y1+s*(x2-x1):=by grind
 subst h3
 grind
theorem ll (hF:Fld n inv) {P Q:Pt n} (hP:P.On) (hQ:Q.On):(cZ inv P Q).On:=by
 rcases P with _|⟨x1,y1⟩
 · exact hQ
 rcases Q with _|⟨x2,y2⟩
 · exact hP
 rw[fM];split
 · trivial
 exact l4 hP (cO hF hP hQ (by assumption))
def JRep (x y z:Fin n):Pt n→Prop
 |none=>z=0
 |some (a,b)=>z≠0∧x=a*(z*z)∧y=b*(z*z*z)
def oL (x y z:Fin n):Fin n×Fin n×Fin n:=
 if z=0 then (x,y,z) else
 let yy:=y*y
 let s0:=x*yy
 let s:=(s0+s0)+(s0+s0)
 let xx:=x*x
 let m:=(xx+xx)+xx
 let x':=m*m-(s+s)
 let e0:=yy*yy
 let e:=(e0+e0)+(e0+e0)
 let z0:=y*z
 (x',m*(s-x')-(e+e),z0+z0)
def iD (x1 y1 z1 x2 y2 z2:Fin n):Fin n×Fin n×Fin n:=
 if z1=0 then (x2,y2,z2) else
 if z2=0 then (x1,y1,z1) else
 let aa:=z1*z1
 let bb:=z2*z2
 let u:=x1*bb
 let v:=x2*aa
 let s:=y1*(z2*bb)
 let t:=y2*(z1*aa)
 let h:=v-u
 let r:=t-s
 if h=0 then (if r=0 then oL x1 y1 z1 else (0,0,0)) else
 let hh:=h*h
 let hhh:=h*hh
 let q:=u*hh
 let x:=(r*r-hhh)-(q+q)
 (x,r*(q-x)-s*hhh,h*(z1*z2))
theorem Bc (hF:Fld n inv) {x y z:Fin n} {P:Pt n} (hP:P.On) (h:JRep x y z P):JRep (oL x y z).1 (oL x y z).2.1 (oL x y z).2.2 (cZ inv P P):=by
 rcases P with _|⟨a,b⟩
 · have h0:z=0:=h
   unfold oL;rw[if_pos h0];exact h0
 obtain⟨hz,rfl,rfl⟩:=h;have hb:=hF.y0 hP
 have bS:b+b≠0:=by
  have:=hF.ne hF.two hb
  grind
 have bN:¬(a=a∧b+b=0):=fun h=>bS h.2
 have hs:=cO hF hP hP bN;obtain⟨s,jO⟩:=ae (jQ inv a b a b);unfold oL;rw[if_neg hz,fM,if_neg bN];rw[←jO] at hs⊢;obtain⟨_,jt⟩:=hs;have mo:=hF.ne hz hz;have hz4:=hF.ne mo mo;have h4:=hF.ne bS hz4;refine⟨?_,?_,?_⟩
 · show b*(z*z*z)*z+b*(z*z*z)*z≠0
   intro h5;exact h4 (by rw[←h5];grind)
 · grind
 grind
theorem um (hF:Fld n inv) {x1 y1 z1 x2 y2 z2:Fin n} {P Q:Pt n} (hP:P.On) (hQ:Q.On) (h1:JRep x1 y1 z1 P) (h2:JRep x2 y2 z2 Q):
 JRep (iD x1 y1 z1 x2 y2 z2).1 (iD x1 y1 z1 x2 y2 z2).2.1 (iD x1 y1 z1 x2 y2 z2).2.2 (cZ inv P Q):=by
 rcases P with _|⟨a1,b1⟩
 · have h0:z1=0:=h1
   unfold iD;rw[if_pos h0];exact h2
 rcases Q with _|⟨a2,b2⟩
 · have h0:z2=0:=h2
   unfold iD;rw[if_neg h1.1,if_pos h0];exact h1
 have h1':=h1;obtain⟨kV,rfl,rfl⟩:=h1;obtain⟨mo,rfl,rfl⟩:=h2;have hW:=hF.ne kV mo;have j6:=hF.ne hW hW;have qS:=hF.ne j6 hW;have eh:a2*(z2*z2)*(z1*z1)-a1*(z1*z1)*(z2*z2)=(z1*z2)*(z1*z2)*(a2-a1):=by grind
 have er:b2*(z2*z2*z2)*(z1*(z1*z1))-b1*(z1*z1*z1)*(z2*(z2*z2))=(z1*z2)*(z1*z2)*(z1*z2)*(b2-b1):=by grind
 by_cases hx:a1=a2
 · subst hx
   have e0:a1*(z2*z2)*(z1*z1)-a1*(z1*z1)*(z2*z2)=0:=by grind
   by_cases hy:b1=b2
   · subst hy
     have e1:b1*(z2*z2*z2)*(z1*(z1*z1))-b1*(z1*z1*z1)*(z2*(z2*z2))=0:=by grind
     have:=Bc hF hP h1';unfold iD;simp only[if_neg kV,if_neg mo,if_pos e0,if_pos e1];exact this
   have e1:¬(b2*(z2*z2*z2)*(z1*(z1*z1))-b1*(z1*z1*z1)*(z2*(z2*z2))=0):=by
    rw[er];exact hF.ne qS (fun h=>hy (by grind))
   have hs:b1+b2=0:=by
    have h3:(b1-b2)*(b1+b2)=0:=by
     have q1:b1*b1=a1*a1*a1+7:=hP;have q2:b2*b2=a1*a1*a1+7:=hQ
     grind
    rcases hF.dom _ _ h3 with h|h
    · exact absurd (by grind) hy
    exact h
   unfold iD;have e:cZ inv (some (a1,b1)) (some (a1,b2))=none:=(fM inv a1 b1 a1 b2).trans (if_pos ⟨rfl,hs⟩);rw[e];simp only[if_neg kV,if_neg mo,if_pos e0,if_neg e1];rfl
 have hd:a2-a1≠0:=fun h=>hx (by grind)
 have e0:¬(a2*(z2*z2)*(z1*z1)-a1*(z1*z1)*(z2*z2)=0):=by
  rw[eh];exact hF.ne j6 hd
 have bN:¬(a1=a2∧b1+b2=0):=fun h=>hx h.1
 have hs:=cO hF hP hQ bN;obtain⟨s,jO⟩:=ae (jQ inv a1 b1 a2 b2);unfold iD;have e:cZ inv (some (a1,b1)) (some (a2,b2))=some (iw s a1 b1 a2):=(fM inv a1 b1 a2 b2).trans ((if_neg bN).trans (by rw[←jO]));rw[e];rw[←jO] at hs;simp only[if_neg kV,if_neg mo,if_neg e0];obtain⟨iH,_⟩:=hs;have bS:b2=b1+s*(a2-a1):=by grind
 subst bS;refine⟨?_,?_,?_⟩
 · rw[eh]
   exact hF.ne (hF.ne j6 hd) hW
 · grind
 grind
def PRep (x y z:Fin n):Pt n→Prop
 |none=>z=0∧x=0∧y≠0
 |some (a,b)=>z≠0∧x=a*z∧y=b*z
def dF (x1 y1 z1 x2 y2 z2:Fin n):Fin n×Fin n×Fin n:=
 let t0:=x1*x2
 let t1:=y1*y2
 let t2:=z1*z2
 let t3:=(x1+y1)*(x2+y2)-(t0+t1)
 let t4:=(y1+z1)*(y2+z2)-(t1+t2)
 let y:=(x1+z1)*(x2+z2)-(t0+t2)
 let t0:=(t0+t0)+t0
 let t2:=21*t2
 let z:=t1+t2
 let t1:=t1-t2
 let y:=21*y
 (t3*t1-t4*y,t1*z+y*t0,z*t4+t0*t3)
theorem rE (hF:Fld n inv) {x1 y1 z1 x2 y2 z2:Fin n} {P Q:Pt n} (hP:P.On) (hQ:Q.On) (h1:PRep x1 y1 z1 P) (h2:PRep x2 y2 z2 Q):
 PRep (dF x1 y1 z1 x2 y2 z2).1 (dF x1 y1 z1 x2 y2 z2).2.1 (dF x1 y1 z1 x2 y2 z2).2.2 (cZ inv P Q):=by
 rcases P with _|⟨a1,b1⟩
 · obtain⟨rfl,rfl,KM⟩:=h1
   have SQ:=hF.ne KM KM;rcases Q with _|⟨a2,b2⟩
   · obtain⟨rfl,rfl,zH⟩:=h2
     have h5:=hF.ne SQ (hF.ne zH zH);refine⟨?_,?_,fun h=>h5 ?_⟩
     · simp only[dF];grind
     · simp only[dF];grind
     simp only[dF] at h;grind
   obtain⟨mo,rfl,rfl⟩:=h2;have hb:=hF.y0 hQ;have h5:=hF.ne SQ (hF.ne (hF.ne hb mo) mo);refine⟨fun h=>h5 ?_,?_,?_⟩
   · simp only[dF] at h;grind
   · simp only[dF];grind
   simp only[dF];grind
 obtain⟨kV,rfl,rfl⟩:=h1;have bH:=hF.y0 hP;rcases Q with _|⟨a2,b2⟩
 · obtain⟨rfl,rfl,zH⟩:=h2
   have h5:=hF.ne (hF.ne zH zH) (hF.ne (hF.ne bH kV) kV);refine⟨fun h=>h5 ?_,?_,?_⟩
   · simp only[dF] at h;grind
   · simp only[dF];grind
   simp only[dF];grind
 obtain⟨mo,rfl,rfl⟩:=h2;have bS:=hF.y0 hQ;have hk:=hF.ne (hF.ne kV mo) (hF.ne kV mo);have q1:b1*b1=a1*a1*a1+7:=hP;have q2:b2*b2=a2*a2*a2+7:=hQ;have eX:(dF (a1*z1) (b1*z1) z1 (a2*z2) (b2*z2) z2).1=(z1*z2)*(z1*z2)*((a1*b2+a2*b1)*(b1*b2-21)-(b1+b2)*(21*(a1+a2))):=by simp only[dF];grind
 have eY:(dF (a1*z1) (b1*z1) z1 (a2*z2) (b2*z2) z2).2.1=(z1*z2)*(z1*z2)*((b1*b2-21)*(b1*b2+21)+21*(a1+a2)*(3*(a1*a2))):=by simp only[dF];grind
 have eZ:(dF (a1*z1) (b1*z1) z1 (a2*z2) (b2*z2) z2).2.2=(z1*z2)*(z1*z2)*((b1*b2+21)*(b1+b2)+3*(a1*a2)*(a1*b2+a2*b1)):=by simp only[dF];grind
 rw[eX,eY,eZ];generalize (z1*z2)*(z1*z2)=k at hk;clear eX eY eZ
 by_cases hx:a1=a2
 · subst hx
   by_cases hs:b1+b2=0
   · have e:cZ inv (some (a1,b1)) (some (a1,b2))=none:=(fM inv a1 b1 a1 b2).trans (if_pos ⟨rfl,hs⟩)
     rw[e];have hb:b2=-b1:=by grind
     subst hb;refine⟨by grind,by grind,fun h=>?_⟩
     have h2b:b1+b1≠0:=by
      have:=hF.ne hF.two bH
      grind
     have bN:¬(a1=a1∧b1+b1=0):=fun h=>h2b h.2
     have jt:=cO hF hP hP bN;have vT:=l4 (x2:=a1) (y2:=b1) hP jt;generalize jQ inv a1 b1 a1 b1=s at jt vT;have h3:=hF.y0 vT;obtain⟨_,hs3⟩:=jt;have h4:=hF.ne (hF.ne (hF.ne h2b h2b) h2b) h3;rcases hF.dom _ _ h with h5|h5
     · exact hk h5
     exact h4 (by grind)
   have bN:¬(a1=a1∧b1+b2=0):=fun h=>hs h.2
   have iG:b1=b2:=by
    have h3:(b1+b2)*(b1-b2)=0:=by grind
    rcases hF.dom _ _ h3 with h|h
    · exact absurd h hs
    grind
   subst iG;have jt:=cO hF hP hP bN;have e:=(fM inv a1 b1 a1 b1).trans (if_neg bN);rw[e];generalize jQ inv a1 b1 a1 b1=s at jt;obtain⟨_,hs3⟩:=jt;have h4:=hF.ne hk (hF.ne (hF.ne hs hs) hs);exact⟨fun h=>h4 (by rw[←h];grind),by grind,by grind⟩
 have hd:a2-a1≠0:=fun h=>hx (by grind)
 have J0:=hF.ne hd hd;have hd3:=hF.ne J0 hd;have bN:¬(a1=a2∧b1+b2=0):=fun h=>hx h.1
 have jt:=cO hF hP hQ bN;have e:=(fM inv a1 b1 a2 b2).trans (if_neg bN);rw[e];generalize jQ inv a1 b1 a2 b2=s at jt;obtain⟨hs3,_⟩:=jt;have VB:Pt.On (some (a2,-b2)):=by show-b2*-b2=a2*a2*a2+7;grind
 have GV:¬(a1=a2∧b1+-b2=0):=fun h=>hx h.1
 have pd:=cO hF hP VB GV;have vT:=l4 (x2:=a2) (y2:=-b2) hP pd;generalize jQ inv a1 b1 a2 (-b2)=t at pd vT;have h3:=hF.y0 vT;obtain⟨ht3,_⟩:=pd;have h4:=hF.ne hk (hF.ne hd3 h3);have hZ:(b1*b2+21)*(b1+b2)+3*(a1*a2)*(a1*b2+a2*b1)=(a2-a1)*(a2-a1)*(a2-a1)*(t*(a1-(t*t-a1-a2))-b1):=by clear h4 h3 hd J0 hd3 bN GV vT hx;grind
 refine⟨fun h=>?_,?_,?_⟩
 · rw[hZ] at h
   exact h4 (by grind)
 · refine hF.cancel J0 ?_
   grind
 refine hF.cancel hd3 ?_
 grind
end
end Go.Proofs.YtnlkdheaohocnaaGreatDoor
namespace Go.Proofs.YtnlkdheaohocnaaGreatDoor
theorem aa4 {n:Nat} [NeZero n] (X Y s u a c a' c':Fin n) (h1:a+a'=s*s-3*X) (h2:a*a'=3*X*X-2*s*Y) (h3:c+c'=u*u-3*X) (h4:c*c'=3*X*X-2*u*Y):
 (2*Y+s*a'+u*c)*(2*Y+s*a'+u*c)*((c'-a)*(c'-a))-(2*Y+u*c'+s*a)*(2*Y+u*c'+s*a)*((a'-c)*(a'-c))=(a'-a+c-c')*((a'-c)*(a'-c))*((c'-a)*(c'-a)):=by
 grind (ringSteps:=1000000000)
theorem aa5 {n:Nat} [NeZero n] (X Y s u a c a' c':Fin n) (h1:a+a'=s*s-3*X) (h2:a*a'=3*X*X-2*s*Y) (h3:c+c'=u*u-3*X) (h4:c*c'=3*X*X-2*u*Y):
 -(2*Y+s*a'+u*c)*((2*a'+c+3*X)*((a'-c)*(a'-c))-(2*Y+s*a'+u*c)*(2*Y+s*a'+u*c))*((c'-a)*(c'-a)*(c'-a))+(2*Y+u*c'+s*a)*((2*c'+a+3*X)*((c'-a)*(c'-a))-(2*Y+u*c'+s*a)*(2*Y+u*c'+s*a))*((a'-c)*(a'-c)*(a'-c))+(s*a'-u*c')*(((a'-c)*(a'-c)*(a'-c))*((c'-a)*(c'-a)*(c'-a)))=0:=by
 grind (ringSteps:=1000000000)
section
variable {n:Nat} [NeZero n] {inv:Fin n→Fin n}
def nb:Pt n→Pt n
 |none=>none
 |some (x,y)=>some (x,-y)
theorem ff {P:Pt n} (h:P.On):(nb P).On:=by
 rcases P with _|⟨x,y⟩
 · trivial
 have h1:y*y=x*x*x+7:=h;show-y*-y=x*x*x+7
 grind
theorem uo (P:Pt n):nb (nb P)=P:=by
 rcases P with _|⟨x,y⟩
 · rfl
 show some (x,- -y)=some (x,y);congr 2
 grind
theorem fN (P:Pt n):cZ inv P none=P:=by cases P<;>rfl
theorem Il (P:Pt n):cZ inv none P=P:=rfl
theorem jk (hF:Fld n inv) {x1 y1 x2 y2 s:Fin n} (h1:y1*y1=x1*x1*x1+7) (h2:y2*y2=x2*x2*x2+7) (bN:¬(x1=x2∧y1+y2=0)) (hs:zQ s x1 y1 x2 y2):
 cZ inv (some (x1,y1)) (some (x2,y2))=some (iw s x1 y1 x2):=by
 rw[D1 hF bN hs (cO hF h1 h2 bN)];exact(fM inv x1 y1 x2 y2).trans (if_neg bN)
theorem fw {x1 y1 x2 y2:Fin n} (h:x1=x2∧y1+y2=0):cZ inv (some (x1,y1)) (some (x2,y2))=none:=(fM inv x1 y1 x2 y2).trans (if_pos h)
theorem qb {s x1 y1 x2 y2:Fin n} (h:zQ s x1 y1 x2 y2):zQ s x2 y2 x1 y1:=by
 obtain⟨h1,h2⟩:=h;exact⟨by grind,by grind⟩
theorem mF {s x1 y1 x2 y2:Fin n} (h:zQ s x1 y1 x2 y2):iw s x1 y1 x2=iw s x2 y2 x1:=by
 obtain⟨h1,h2⟩:=h;unfold iw;congr 1<;>grind
theorem od (hF:Fld n inv) {P Q:Pt n} (hP:P.On) (hQ:Q.On):cZ inv P Q=cZ inv Q P:=by
 rcases P with _|⟨x1,y1⟩
 · rw[fN];rfl
 rcases Q with _|⟨x2,y2⟩
 · rfl
 by_cases h:x1=x2∧y1+y2=0
 · rw[fw h,fw ⟨h.1.symm,by grind⟩]
 have hs:=cO hF hP hQ h;rw[jk hF hP hQ h hs,jk hF hQ hP (fun h2=>h ⟨h2.1.symm,by grind⟩) (qb hs),mF hs]
theorem Lk {P:Pt n}:cZ inv (nb P) P=none:=by
 rcases P with _|⟨x,y⟩
 · rfl
 exact fw ⟨rfl,by grind⟩
theorem qc {P:Pt n}:cZ inv P (nb P)=none:=by
 rcases P with _|⟨x,y⟩
 · rfl
 exact fw ⟨rfl,by grind⟩
theorem aa6 {a b c:Fin n} (h:a=b- -c):b=a-c:=by grind
theorem Im {s x1 y1 x3 y3 xw yw:Fin n} (s1:s*(x3-x1)=y3- -y1) (s2:s*(-y1+y3)=x1*x1+x1*x3+x3*x3) (hx:xw=s*s-x1-x3) (hy:yw=s*(x1-xw)- -y1):
 zQ (-s) x1 y1 xw yw∧x3=-s*-s-x1-xw∧y3=-s*(x1-x3)-y1:=by
 subst hx hy;have h3:=aa6 s1;clear s1;subst h3;refine⟨⟨?_,?_⟩,?_,?_⟩<;>grind
theorem Ll (hF:Fld n inv) {x y:Fin n} (h:y*y=x*x*x+7):y+y≠0:=by
 have:=hF.ne hF.two (hF.y0 h)
 grind
theorem ix (hF:Fld n inv) {P R:Pt n} (hP:P.On) (hR:R.On):cZ inv P (cZ inv (nb P) R)=R:=by
 rcases P with _|⟨x1,y1⟩
 · rfl
 rcases R with _|⟨x3,y3⟩
 · rw[fN,qc]
 have QE:Pt.On (some (x1,-y1)):=ff hP;have q1:y1*y1=x1*x1*x1+7:=hP;show cZ inv (some (x1,y1)) (cZ inv (some (x1,-y1)) (some (x3,y3)))=_
 by_cases h:x1=x3∧-y1+y3=0
 · rw[fw h,fN,h.1,show y1=y3 by grind]
 have hs:=cO hF QE hR h;rw[jk hF QE hR h hs];have hW:=l4 QE hs;generalize jQ inv x1 (-y1) x3 y3=s at hs hW;obtain⟨xw,Fw⟩:∃xw,xw=s*s-x1-x3:=⟨_,rfl⟩;obtain⟨yw,zR⟩:∃yw,yw=s*(x1-xw)- -y1:=⟨_,rfl⟩;have e:iw s x1 (-y1) x3=(xw,yw):=by rw[zR,Fw];rfl
 rw[e] at hW⊢;obtain⟨s1,s2⟩:=hs
 have bN:¬(x1=xw∧y1+yw=0):=fun h2=>Ll hF q1 (by
  obtain⟨h3,h4⟩:=h2;rw[zR,←h3] at h4
  grind)
 obtain⟨h5,h6,h7⟩:=Im s1 s2 Fw zR;rw[jk hF hP hW bN h5];unfold iw;rw[←h6,←h7]
theorem QF {s x1 y1 x2 y2:Fin n} (h1:s*(x2-x1)=y2-y1) (h2:s*(y1+y2)=x1*x1+x1*x2+x2*x2):
 (x1-x2)*((s*s-x1-x2)-x2)=3*x2*x2-2*s*y2:=by
 have h3:y1=y2-s*(x2-x1):=by grind
 subst h3;clear h1
 grind
theorem FK (s x1 x2:Fin n):(x1-x2)+((s*s-x1-x2)-x2)=s*s-3*x2:=by grind
theorem QG {s x1 y1 x2 y2 x4:Fin n} (h1:s*(x2-x1)=y2-y1):s*(x1-x4)-y1=-(y2+s*(x4-x2)):=by grind
theorem Lm {u x2 y2 x3 y3 x6:Fin n} (_:u*(x3-x2)=y3-y2):u*(x2-x6)-y2=-(y2+u*(x6-x2)):=by grind
theorem SR {t v T V D E K:Fin n} (ht:t*D=-T) (hv:v*E=-V) (h:T*T*(E*E)-V*V*(D*D)=K*(D*D)*(E*E)):(D*D)*((E*E)*(t*t-v*v-K))=0:=by
 have h1:T=-(t*D):=by grind
 have h2:V=-(v*E):=by grind
 subst h1 h2;clear ht hv
 grind
theorem SS {t v T V D E K L M:Fin n} (ht:t*D=-T) (hv:v*E=-V) (h:-T*(K*(D*D)-T*T)*(E*E*E)+V*(L*(E*E)-V*V)*(D*D*D)+M*((D*D*D)*(E*E*E))=0):
 (D*D*D)*((E*E*E)*(t*(K-t*t)-v*(L-v*v)+M))=0:=by
 have h1:T=-(t*D):=by grind
 have h2:V=-(v*E):=by grind
 subst h1 h2;clear ht hv
 grind
theorem X1 {t v x1 x2 x3 x4 x6:Fin n} (h:t*t-v*v-((x4-x2)-(x1-x2)+(x3-x2)-(x6-x2))=0):t*t-x4-x3=v*v-x1-x6:=by grind
theorem X2 {t v s u x1 y1 x2 y2 x3 x4 y4 x6 y6:Fin n} (_:t*t-x4-x3=v*v-x1-x6) (hv:v*(x6-x1)=y6-y1) (h4:y4=-(y2+s*(x4-x2))) (h6:y6=-(y2+u*(x6-x2)))
 (h:t*((2*(x4-x2)+(x3-x2)+3*x2)-t*t)-v*((2*(x6-x2)+(x1-x2)+3*x2)-v*v)+(s*(x4-x2)-u*(x6-x2))=0):
 t*(x4-(t*t-x4-x3))-y4=v*(x1-(v*v-x1-x6))-y1:=by
 have e1:v*(x1-(v*v-x1-x6))-y1=v*(x6-(v*v-x1-x6))-y6:=by clear h h4 h6;grind
 rw[e1,h4,h6];clear hv h4 h6 e1
 grind
theorem X3 {t s u x2 y2 x3 y3 x4 y4:Fin n} (ht:t*(x3-x4)=y3-y4) (hu:u*(x3-x2)=y3-y2) (h4:y4=-(y2+s*(x4-x2))):t*((x4-x2)-(x3-x2))=-(2*y2+s*(x4-x2)+u*(x3-x2)):=by
 subst h4
 grind
theorem QH {v s u x1 y1 x2 y2 x6 y6:Fin n} (hv:v*(x6-x1)=y6-y1) (hs:s*(x2-x1)=y2-y1) (h6:y6=-(y2+u*(x6-x2))):v*((x6-x2)-(x1-x2))=-(2*y2+u*(x6-x2)+s*(x1-x2)):=by
 subst h6
 grind
theorem Ln {u x2 y2 x3 y3:Fin n} (h1:u*(x3-x2)=y3-y2) (h2:u*(y2+y3)=x2*x2+x2*x3+x3*x3):
 (x3-x2)*((u*u-x2-x3)-x2)=3*x2*x2-2*u*y2:=by
 have h3:y3=y2+u*(x3-x2):=by grind
 subst h3;clear h1
 grind
theorem Bd (u x2 x3:Fin n):(x3-x2)+((u*u-x2-x3)-x2)=u*u-3*x2:=by grind
theorem Lo {a b c:Fin n} (h:a≠b):(a-c)-(b-c)≠0:=fun h2=>h (by grind)
theorem Io (hF:Fld n inv) {x1 y1 x2 y2 x3 y3 s u t v x4 y4 x6 y6:Fin n} (hs:zQ s x1 y1 x2 y2) (hu:zQ u x2 y2 x3 y3) (e4:iw s x1 y1 x2=(x4,y4)) (e6:iw u x2 y2 x3=(x6,y6))
 (ht:zQ t x4 y4 x3 y3) (hv:zQ v x1 y1 x6 y6) (n4:x4≠x3) (n6:x6≠x1):iw t x4 y4 x3=iw v x1 y1 x6:=by
 obtain⟨iH,jt⟩:=hs;obtain⟨Db,J2⟩:=hu;obtain⟨zS,_⟩:=ht;obtain⟨zJ,_⟩:=hv;obtain⟨rfl,e4y⟩:=Prod.mk.inj (show (s*s-x1-x2,s*(x1-(s*s-x1-x2))-y1)=(x4,y4) from e4);obtain⟨rfl,e6y⟩:=Prod.mk.inj (show (u*u-x2-x3,u*(x2-(u*u-x2-x3))-y2)=(x6,y6) from e6);have h1:=FK s x1 x2;have h2:=QF iH jt;have h3:=Bd u x2 x3;have h4:=Ln Db J2;have VC:y4=-(y2+s*((s*s-x1-x2)-x2)):=by rw[←e4y];exact QG iH
 have X4:y6=-(y2+u*((u*u-x2-x3)-x2)):=by rw[←e6y];exact Lm Db
 have hT:=X3 zS Db VC;have hV:=QH zJ iH X4;have hD:=Lo (c:=x2) n4;have hE:=Lo (c:=x2) n6;have cx:=SR hT hV (aa4 x2 y2 s u (x1-x2) (x3-x2) ((s*s-x1-x2)-x2) ((u*u-x2-x3)-x2) h1 h2 h3 h4);have cy:=SS hT hV (aa5 x2 y2 s u (x1-x2) (x3-x2) ((s*s-x1-x2)-x2) ((u*u-x2-x3)-x2) h1 h2 h3 h4);have hD2:=hF.ne hD hD;have tS:=hF.ne hE hE;have cx2:=(hF.dom _ _ ((hF.dom _ _ cx).resolve_left hD2)).resolve_left tS;have cy2:=(hF.dom _ _ ((hF.dom _ _ cy).resolve_left (hF.ne hD2 hD))).resolve_left (hF.ne tS hE);have fx:=X1 cx2;have fy:=X2 fx zJ VC X4 cy2;show (_,_)=(_,_);rw[fx,←fy,fx]
theorem SU {Y s u a' y4:Fin n} (h4:y4=-(Y+s*a')) (h3:y4=Y+u*a'):y4+y4=(u-s)*a'∧(u+s)*a'=-(Y+Y):=by
 refine⟨?_,?_⟩<;>grind
theorem SV {X Y s a a' y4:Fin n} (h1:a+a'=s*s-3*X) (h2:a*a'=3*X*X-2*s*Y) (h4:y4=-(Y+s*a')):3*((a'+X)*(a'+X))=(a'-a)*a'-2*s*y4:=by
 subst h4
 grind
theorem SW {X s u a a' y4 t:Fin n} (ht:t*(y4+y4)=3*((a'+X)*(a'+X))) (g1:y4+y4=(u-s)*a') (g2:3*((a'+X)*(a'+X))=(a'-a)*a'-2*s*y4):a'*((u-s)*(t+s)-(a'-a))=0:=by
 have h:t*(y4+y4)=(a'-a)*a'-s*(y4+y4):=by rw[ht,g2];clear ht g1 g2;grind
 rw[g1] at h;clear ht g1 g2
 grind
theorem SX {X s u a a' c':Fin n} (h1:a+a'=s*s-3*X) (h3:a'+c'=u*u-3*X):c'-a=(u-s)*(u+s):=by grind
theorem SY {Y s u a a' c' v:Fin n} (hv:v*(c'-a)=-(2*Y+u*c'+s*a)) (g:(u+s)*a'=-(Y+Y)) (hc:c'-a=(u-s)*(u+s)):(u+s)*((u-s)*(v+u)-(a'-a))=0:=by
 have h:2*Y=-((u+s)*a'):=by rw[g];clear hv g hc;grind
 have h2:c'=a+(u-s)*(u+s):=by rw[←hc];clear hv g hc h;grind
 rw[h,hc] at hv;subst h2;clear g hc h
 grind
theorem SZ {s u a a' t v:Fin n} (f1:(u-s)*(t+s)-(a'-a)=0) (f2:(u-s)*(v+u)-(a'-a)=0):(u-s)*(t-(v+u-s))=0:=by grind
theorem X5 {s u a a' c' v:Fin n} (f2:(u-s)*(v+u)-(a'-a)=0) (hc:c'-a=(u-s)*(u+s)):(v+u-s)*(v+u-s)-a'-a'=v*v-c'-a:=by
 have h2:c'=a+(u-s)*(u+s):=by rw[←hc];clear f2 hc;grind
 subst h2;clear hc
 grind
theorem X6 {X Y s u a a' c' v:Fin n} (f2:(u-s)*(v+u)-(a'-a)=0) (h1:a+a'=s*s-3*X) (h3:a'+c'=u*u-3*X) (e:Fin n) (he:e=v*v-c'-a):
 (v+u-s)*(a'-(e-3*X))+(Y+s*a')=v*(c'-(e-3*X))+(Y+u*c'):=by
 subst he;have hX:3*X=s*s-a-a':=by grind
 have hc:c'=u*u-(s*s-a-a')-a':=by grind
 rw[hX];clear h1 h3 hX;subst hc
 grind
theorem S2 {t v x1 x2 x3 x6:Fin n} (h:t*t-(x3-x2)-(x3-x2)=v*v-(x6-x2)-(x1-x2)):t*t-x3-x3=v*v-x1-x6:=by grind
theorem S3 {t v s u x1 y1 x2 y2 x3 y3 x6 y6:Fin n} (hx:t*t-x3-x3=v*v-x1-x6) (hv:v*(x6-x1)=y6-y1) (h4:y3=-(y2+s*(x3-x2))) (h6:y6=-(y2+u*(x6-x2)))
 (h:t*((x3-x2)-((v*v-(x6-x2)-(x1-x2))-3*x2))+(y2+s*(x3-x2))=v*((x6-x2)-((v*v-(x6-x2)-(x1-x2))-3*x2))+(y2+u*(x6-x2))):
 t*(x3-(t*t-x3-x3))-y3=v*(x1-(v*v-x1-x6))-y1:=by
 have e1:v*(x1-(v*v-x1-x6))-y1=v*(x6-(v*v-x1-x6))-y6:=by clear h hx h4 h6;grind
 rw[e1,hx,h4,h6];clear hv hx h4 h6 e1
 grind
theorem X7 {t x4 y4:Fin n} (h:t*(y4+y4)=x4*x4+x4*x4+x4*x4) (a X:Fin n) (e:a+X=x4):t*(y4+y4)=3*((a+X)*(a+X)):=by
 subst e;rw[h];clear h
 grind
theorem aa7 {a b c:Fin n} (h:a=b-c):b=c+a:=by grind
theorem S4 (a b:Fin n):a-b+b=a:=by grind
theorem aa8 (a:Fin n):a*0=0:=by grind
theorem X8 (a:Fin n):0*a=0:=by grind
theorem aa9 {a b:Fin n} (h:a-b=0):a=b:=by grind
theorem Be {a b:Fin n} (h:a=-b) (h0:a=0):b=0:=by grind
theorem Bf (hF:Fld n inv) {x1 y1 x2 y2 x3 y3 s u t v x6 y6:Fin n} (q2:y2*y2=x2*x2*x2+7) (q3:y3*y3=x3*x3*x3+7) (hs:zQ s x1 y1 x2 y2) (hu:zQ u x2 y2 x3 y3) (e4:iw s x1 y1 x2=(x3,y3)) (e6:iw u x2 y2 x3=(x6,y6))
 (ht:zQ t x3 y3 x3 y3) (hv:zQ v x1 y1 x6 y6):iw t x3 y3 x3=iw v x1 y1 x6:=by
 obtain⟨iH,jt⟩:=hs;obtain⟨Db,J2⟩:=hu;obtain⟨_,pd⟩:=ht;obtain⟨zJ,_⟩:=hv;obtain⟨e4x,e4y⟩:=Prod.mk.inj (show (s*s-x1-x2,s*(x1-(s*s-x1-x2))-y1)=(x3,y3) from e4);obtain⟨e6x,e6y⟩:=Prod.mk.inj (show (u*u-x2-x3,u*(x2-(u*u-x2-x3))-y2)=(x6,y6) from e6);have h1:=FK s x1 x2;have h2:=QF iH jt;have h3:=Bd u x2 x3;have h4:=Ln Db J2;rw[e4x] at h1 h2 e4y;rw[e6x] at h3 h4 e6y;have VC:y3=-(y2+s*(x3-x2)):=by rw[←e4y];exact QG iH
 have h3y:y3=y2+u*(x3-x2):=aa7 Db;have X4:y6=-(y2+u*(x6-x2)):=by rw[←e6y];exact Lm Db
 have hV:=QH zJ iH X4;have n2:=Ll hF q2;have n3:=Ll hF q3;obtain⟨g1,g0⟩:=SU VC h3y;have g2:=SV h1 h2 VC;have g3:=SW (X7 pd (x3-x2) x2 (S4 x3 x2)) g1 g2;have ha:x3-x2≠0:=fun h=>n3 (by rw[g1,h];exact aa8 _)
 have hus:u+s≠0:=fun h=>n2 (Be g0 (by rw[h];exact X8 _))
 have hms:u-s≠0:=fun h=>n3 (by rw[g1,h];exact X8 _)
 have hc:=SX h1 h3;have f1:=(hF.dom _ _ g3).resolve_left ha;have f2:=(hF.dom _ _ (SY hV g0 hc)).resolve_left hus;have ft:=(hF.dom _ _ (SZ f1 f2)).resolve_left hms;have et:t=v+u-s:=aa9 ft;subst et;have fx:=S2 (X5 f2 hc);have fy:=S3 fx zJ VC X4 (X6 f2 h1 h3 _ rfl);show (_,_)=(_,_);rw[fy,fx]
theorem xt (hF:Fld n inv) {P Q:Pt n} (hP:P.On) (hQ:Q.On):nb (cZ inv P Q)=cZ inv (nb P) (nb Q):=by
 rcases P with _|⟨x1,y1⟩
 · rfl
 rcases Q with _|⟨x2,y2⟩
 · rfl
 by_cases h:x1=x2∧y1+y2=0
 · rw[fw h]
   exact(fw ⟨h.1,by have:=h.2;clear h hP hQ;grind⟩).symm
 have hs:=cO hF hP hQ h;rw[jk hF hP hQ h hs];generalize jQ inv x1 y1 x2 y2=s at hs;have QE:Pt.On (some (x1,-y1)):=ff hP;have VB:Pt.On (some (x2,-y2)):=ff hQ
 have hn:zQ (-s) x1 (-y1) x2 (-y2):=by
  obtain⟨a,b⟩:=hs;clear hP hQ QE VB h;exact⟨by grind,by grind⟩
 refine Eq.trans ?_ (jk hF QE VB (fun h2=>h ⟨h2.1,by have:=h2.2;clear hP hQ QE VB h h2 hs hn;grind⟩) hn).symm;show some (s*s-x1-x2,-(s*(x1-(s*s-x1-x2))-y1))=some (-s*-s-x1-x2,-s*(x1-(-s*-s-x1-x2))- -y1);clear hs hn hP hQ QE VB h;congr 2<;>grind
theorem D2 (hF:Fld n inv) {x y y':Fin n} (h:y*y=x*x*x+7) (h':y'*y'=x*x*x+7) (hn:¬(y+y'=0)):y=y':=by
 have h1:(y+y')*(y-y')=0:=by clear hn;grind
 have h2:=(hF.dom _ _ h1).resolve_left hn;clear h h' hn h1
 grind
theorem tn {a b:Fin n} (h:a+b=0):b=-a:=by grind
theorem D3 (hF:Fld n inv) {P Q R:Pt n} (hP:P.On) (hQ:Q.On) (hR:R.On):cZ inv (cZ inv P Q) R=cZ inv P (cZ inv Q R):=by
 rcases P with _|⟨x1,y1⟩
 · rfl
 rcases Q with _|⟨x2,y2⟩
 · rfl
 rcases R with _|⟨x3,y3⟩
 · rw[fN,fN]
 by_cases yG:x1=x2∧y1+y2=0
 · rw[fw yG]
   have e:some (x2,y2)=nb (some (x1,y1)):=by rw[←yG.1,tn yG.2];rfl
   rw[e,ix hF hP hR];rfl
 by_cases Bg:x2=x3∧y2+y3=0
 · rw[fw Bg,fN]
   have e:some (x3,y3)=nb (some (x2,y2)):=by rw[←Bg.1,tn Bg.2];rfl
   rw[e,od hF (ll hF hP hQ) (ff hQ),od hF hP hQ];have:=ix hF (ff hQ) hP;rwa [uo] at this
 have hs:=cO hF hP hQ yG;have hu:=cO hF hQ hR Bg;have X9:=jk hF hP hQ yG hs;have Ya:=jk hF hQ hR Bg hu;have Yb:=l4 hP hs;have Yc:=l4 hQ hu;generalize jQ inv x1 y1 x2 y2=s at hs X9 Yb;generalize jQ inv x2 y2 x3 y3=u at hu Ya Yc;obtain⟨⟨x4,y4⟩,e4⟩:∃p,iw s x1 y1 x2=p:=⟨_,rfl⟩;obtain⟨⟨x6,y6⟩,e6⟩:∃p,iw u x2 y2 x3=p:=⟨_,rfl⟩;rw[e4] at Yb X9;rw[e6] at Yc Ya
 by_cases VD:x4=x3∧y4+y3=0
 · rw[X9,fw VD]
   have e:some (x3,y3)=nb (some (x4,y4)):=by rw[←VD.1,tn VD.2];rfl
   rw[e,←X9,xt hF hP hQ,od hF (ff hP) (ff hQ),ix hF hQ (ff hP),qc]
 by_cases GQ:x1=x6∧y1+y6=0
 · rw[Ya,fw GQ]
   have e:some (x6,y6)=nb (some (x1,y1)):=by rw[←GQ.1,tn GQ.2];rfl
   have e3:some (x3,y3)=cZ inv (nb (some (x2,y2))) (some (x6,y6)):=by
    have:=ix hF (ff hQ) hR;rw[uo] at this;rw[←Ya,this]
   rw[e3,e,od hF (ff hQ) (ff hP),←xt hF hP hQ,qc]
 rw[X9,Ya];have ht:=cO hF Yb hR VD;have hv:=cO hF hP Yc GQ;rw[jk hF Yb hR VD ht,jk hF hP Yc GQ hv];generalize jQ inv x4 y4 x3 y3=t at ht;generalize jQ inv x1 y1 x6 y6=v at hv;congr 1
 by_cases n4:x4=x3
 · subst n4
   obtain rfl:=D2 hF Yb hR (fun h=>VD ⟨rfl,h⟩);exact Bf hF hQ hR hs hu e4 e6 ht hv
 by_cases n6:x6=x1
 · subst n6
   obtain rfl:=D2 hF hP Yc (fun h=>GQ ⟨rfl,h⟩);have:=Bf hF hQ hP (qb hu) (qb hs) (by rw[←mF hu];exact e6) (by rw[←mF hs];exact e4) hv (qb ht);rw[this,mF ht]
 exact Io hF hs hu e4 e6 ht hv n4 n6
end
end Go.Proofs.YtnlkdheaohocnaaGreatDoor

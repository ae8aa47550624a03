/- Whoever walks down with the secret signs what whoever walks down without it verifies, and the text of either walks the same way (StrongboxKeyed). No condition. -/
import Derived.Test.YtnlkdheaohocnaaGreatDoorU1
import Derived.Test.YtnlkdheaohocnaaGreatDoorU13
import Derived.Test.YtnlkdheaohocnaaGreatDoorU21
import Derived.Deep.MidRow
import Derived.Test.YtnlkdheaohocnaaGreatDoorU3
import Derived.Test.YtnlkdheaohocnaaGreatDoorU12
import Derived.ChangeKeysEq
set_option maxRecDepth 1000000
set_option maxHeartbeats 16000000
set_option linter.unusedVariables false
set_option linter.unusedSimpArgs false
namespace Go.Proofs.YtnlkdheaohocnaaGreatDoor
section
variable {n:Nat} [NeZero n] {inv:Fin n→Fin n}
theorem BD (k:Nat):fR inv (none:Pt n) k=none:=by
 induction k with
 |zero=>rfl
 |succ k ih=>rw[fR,ih];rfl
structure Ord (inv:Fin n→Fin n) (G:Pt n) (N:Nat):Prop where
 on:G.On
 ne:G≠none
 pri:Pri N
 ord:fR inv G N=none
theorem Ord.mul {G:Pt n} {N:Nat} (hF:Fld n inv) (h:Ord inv G N) (b:Nat):fR inv G (N*b)=none:=by
 rw[tq hF h.on,h.ord,BD]
theorem Ord.mod {G:Pt n} {N:Nat} (hF:Fld n inv) (h:Ord inv G N) (a:Nat):fR inv G (a%N)=fR inv G a:=by
 have e:=Nat.div_add_mod a N;have h1:fR inv G a=cZ inv (fR inv G (N*(a/N))) (fR inv G (a%N)):=by rw[←jl hF h.on,e]
 rw[h1,h.mul hF,Il]
theorem F4 {N:Nat} (hN:Pri N) {k:Nat} (hk:¬N∣k):k*k^(N-2)%N=1:=by
 have h1:=hN.1;have:=ui hN hk;rwa [←Nat.pow_succ',show (N-2).succ=N-1 by omega]
theorem Ord.zero {G:Pt n} {N:Nat} (hF:Fld n inv) (h:Ord inv G N) (k:Nat):fR inv G k=none↔N∣k:=by
 constructor
 · intro h0
   refine Classical.byContradiction fun hn=>h.ne ?_
   have h1:=F4 h.pri hn;have h2:fR inv G (k*k^(N-2))=none:=by rw[tq hF h.on,h0,BD]
   rw[←h.mod hF,h1] at h2;exact h2
 rintro⟨b,rfl⟩;exact h.mul hF b
theorem rP (hF:Fld n inv) {A B C:Pt n} (hA:A.On) (hB:B.On) (hC:C.On) (h:cZ inv A B=cZ inv A C):B=C:=by
 have h1:=ix hF (ff hA) hB;have h2:=ix hF (ff hA) hC;rw[uo] at h1 h2;rw[←h1,h,h2]
theorem Ord.inj {G:Pt n} {N:Nat} (hF:Fld n inv) (h:Ord inv G N) {a b:Nat} (he:fR inv G a=fR inv G b):a%N=b%N:=by
 rcases Nat.le_total a b with Ih|Ih
 · have h1:fR inv G b=cZ inv (fR inv G a) (fR inv G (b-a)):=by rw[←jl hF h.on,Nat.add_sub_cancel' Ih]
   have h2:fR inv G (b-a)=none:=rP hF (ij hF h.on a) (ij hF h.on _) trivial (by rw[←h1,←he,fN]);exact mD Ih ((h.zero hF _).1 h2)
 have h1:fR inv G a=cZ inv (fR inv G b) (fR inv G (a-b)):=by rw[←jl hF h.on,Nat.add_sub_cancel' Ih]
 have h2:fR inv G (a-b)=none:=rP hF (ij hF h.on b) (ij hF h.on _) trivial (by rw[←h1,he,fN]);exact(mD Ih ((h.zero hF _).1 h2)).symm
theorem Ord.neg {G:Pt n} {N:Nat} (hF:Fld n inv) (h:Ord inv G N) {a b:Nat} (Ih:(a+b)%N=0):fR inv G b=nb (fR inv G a):=by
 have h0:fR inv G (a+b)=none:=(h.zero hF _).2 (Nat.dvd_of_mod_eq_zero Ih);rw[jl hF h.on] at h0;refine rP hF (ij hF h.on a) (ij hF h.on b) (ff (ij hF h.on a)) ?_;rw[h0,qc]
def J4:Pt n→Option (Fin n)
 |none=>none
 |some (x,_)=>some x
theorem Tr (hF:Fld n inv) {P Q:Pt n} (hP:P.On) (hQ:Q.On) (h:J4 P=J4 Q):P=Q∨P=nb Q:=by
 rcases P with _|⟨x,y⟩
 · rcases Q with _|⟨x2,y2⟩
   · exact .inl rfl
   cases h
 rcases Q with _|⟨x2,y2⟩
 · cases h
 obtain rfl:x=x2:=by injection h
 by_cases hs:y+y2=0
 · right
   show some (x,y)=some (x,-y2);have:y=-y2:=by clear h hP hQ;grind
   rw[this]
 exact .inl (by rw[D2 hF hP hQ hs])
theorem Ord.x_inj {G:Pt n} {N:Nat} (hF:Fld n inv) (h:Ord inv G N) {a b:Nat} (he:J4 (fR inv G a)=J4 (fR inv G b)):a%N=b%N∨(a+b)%N=0:=by
 have hN:=h.pri.1;rcases Tr hF (ij hF h.on a) (ij hF h.on b) he with h1|h1
 · exact .inl (h.inj hF h1)
 right;have h2:fR inv G (a+b)=none:=by rw[jl hF h.on,h1,Lk]
 exact Nat.mod_eq_zero_of_dvd ((h.zero hF _).1 h2)
end
theorem L7:Ord bM (some (gX,gY)) ar where
 on:=qd
 ne:=fun h=>by cases h
 pri:=kx
 ord:=by
  have h1:=l5 fz qd (show JRep gX gY 1 (some (gX,gY)) from⟨by decide+kernel,by decide+kernel,by decide+kernel⟩) ar 256;rw[og fz qd ar (by decide+kernel) 256 (adi _),Nat.sub_self,Nat.pow_zero,Nat.div_one] at h1
  cases hk:fR bM (some (gX,gY)) ar with
  |none=>rfl
  |some p=>
   rw[hk] at h1;exact absurd OY h1.1
end Go.Proofs.YtnlkdheaohocnaaGreatDoor
namespace Go.Proofs.YtnlkdheaohocnaaGreatDoor
open Go.RowKit Go.Shelf
section
variable {P:Program} {ops:Array Oper} {N:Nat} {Q:Act→World→Prop} {st:Nat→(Act→World→Prop)→Act→World→Prop}
theorem ia {i:Nat} {rest:List (Nat×Nat)} {o:Oper} {a:Act} {w:World} (ho:ops[i]?=some o) (lQ:o.guard=none) (ty:TypeId) (x:Operand) (cK:o.op=.load ty x) (g:Nat) (hx:a.eval x=.pointer (some ⟨g,0,none⟩)) (t:TypeId) (cs:Array Value) (fr:Nat×Nat) (d:TypeDesc) (hg:w.heap[g]?=some (.cells cs t fr))
 (hu:P.underlying ty=some d) (hd:(match d with|.struct _|.array _ _=>true|_=>false)=true) (hi:(P.info? ty).map (·.size)=some cs.size) (h:aI P ops Q st N rest (a.put o.dst (.agg cs)) w):
 aI P ops Q st N ((i,1)::rest) a w:=by
 simp only[aI,if_true,ho,Nat.one_ne_zero,if_false];exact⟨.agg cs,.inl ⟨by simp[Region.wanted,lQ],fun w' GA=>dj ty x cK g hx t cs fr d ((GA.below.block g (adg.1 hg).1).trans hg) hu hd hi⟩,h⟩
end
theorem Ts (F:Nat→Nat→World→Prop) {G:Prop} {T:Nat→Nat→World→Prop} (h2:(∀g k w,F g k w→T g k w)→G) (h1:∀g k w,F g k w→T g k w):G:=h2 h1
theorem ID (b:List UInt8) (hl:b.length=32) (w:World):
 Calls Tryz.prog 54 #[.agg (B8 b).toArray] w fun e W'=>e=.returned (.bool (dE b))∧Below w.heap.size w W':=by
 have bx:Tryz.prog.follows .mixedOrders=true:=by kernel_rfl
 obtain⟨P,hP⟩:=ae (dE b);obtain⟨X,hX⟩:=ae (bB b);obtain⟨cs,eA⟩:∃cs,cs=(B8 b).toArray:=⟨_,rfl⟩;rw[←hP,←eA]
 have HK:Hid (∀(g:Nat) (Y:World),FieldAt Y g 7 ar dN→Calls Tryz.prog 28 #[.pointer (some ⟨g,0,none⟩),.agg cs] Y fun e W'=>e=.returned (.tuple #[.agg (ax X),.bool P])∧Below Y.heap.size Y W'):=
  ab fun g Y hF=>by rw[eA,hX,hP];exact ov g b hl Y hF
 have lZ:cs.size=32:=by rw[eA];simp[hl]
 have KN:=ab (show (Tryz.prog.info? 24).map (·.size)=some cs.size by rw[lZ];kernel_rfl);clear hP hX eA hl lZ;go_enter Tryz.func54,Tryz.ntmps54;go_wp2_with (refine wpList_boxTo rfl 24 (.tmp 0) rfl _ rfl w.heap.size rfl cs rfl ?_);have bG:=adk w (.cells cs 24);obtain⟨W0,bD⟩:=ae (w.alloc (.cells cs 24));rw[←bD] at bG;have de:Below w.heap.size w W0:=by rw[bD];exact(adl _ w).alloc (adi _) _
 refine(show W0=_ from bD)▸?_;clear bD;have yL:Below W0.heap.size W0 W0.drew:=(adl _ _).drew;apply Ts (fun g gN wE=>Below W0.heap.size W0 wE)
 · intro hT
   refine eo _ 7 _ bx (by kernel_rfl) (by intro c a d v w h;cases d<;>exact h) (ek (aJ _ (by intro c a d v w h;cases d<;>exact h)) (by kernel_rfl) 8 [(1,1)] _ (by kernel_rfl) (ei (aJ _ (by intro c a d v w h;cases d<;>exact h)) 0 6 7 _ (by kernel_rfl) (ek (aJ _ (by intro c a d v w h;cases d<;>exact h)) (by kernel_rfl) 7 [] _ (by kernel_rfl) (ei (aJ _ (by intro c a d v w h;cases d<;>exact h)) 2 6 6 _ (by kernel_rfl) (cq (aJ _ (by intro c a d v w h;cases d<;>exact h)) (by kernel_rfl) [(3,0),(4,0),(5,0),(6,2),(7,2),(8,2)] _ (by kernel_rfl)) (cq (aJ _ (by intro c a d v w h;cases d<;>exact h)) (by kernel_rfl) [(2,2),(3,0),(4,0),(5,0),(7,2),(8,2)] _ (by kernel_rfl)))) (cq (aJ _ (by intro c a d v w h;cases d<;>exact h)) (by kernel_rfl) [(0,2),(2,2),(3,0),(4,0),(5,0),(7,2),(8,2)] _ (by kernel_rfl)))) ?_;refine ia rfl rfl 24 (.tmp 1) rfl w.heap.size rfl 24 cs (0,0) _ bG Tryz.underlying24 rfl KN.out ?_;refine ep rfl rfl rfl rfl (fun K hK=>?_) (fun K hK=>?_)
   · go_wp2_with fail
     refine(rM _).mono ?_;rintro e w1 ⟨g,rfl,hg,NX,Tn,sX⟩;have fA:Below W0.heap.size W0 w1:=yL.trans (sX.mono yL.size);go_wp2_with fail;refine⟨(av sX),?_⟩;refine ep rfl rfl rfl rfl (fun K hK=>?_) (fun K hK=>?_)
     · go_wp2_with fail
       refine(HK.out g _ Tn).mono ?_;rintro e w2 ⟨rfl,mI⟩;have fZ:Below W0.heap.size W0 w2:=fA.trans (mI.mono fA.size);go_wp2_with fail;refine⟨(av mI),?_⟩
       repeat ((first|(refine ao rfl (fun K hK=>?_)) );go_simp;(first|(refine hK _ ?_) );clear hK K;(try go_bits))
       refine ah rfl rfl (fun K hK=>?_);go_wp2_with fail;refine⟨.inr (bq _ _),?_⟩;obtain⟨wN,eg⟩:∃Y,Y=w2.alloc (.cells #[.int .u64 0,.int .u64 0,.int .u64 0,.int .u64 0] 67):=⟨_,rfl⟩
       rw[←eg];have nC:Below W0.heap.size W0 wN:=by rw[eg];exact fZ.alloc fZ.size _
       have mJ:wN.heap[w2.heap.size]?=some (.cells (ax 0) 67 (0,0)):=by rw[eg];exact adk w2 _
       have nD:W0.heap.size≤w2.heap.size:=fZ.size;clear eg;refine ah rfl rfl (fun K hK=>?_);refine wp_store_row 67 (.tmp 3) (.tmp 9) rfl w2.heap.size (ax X) rfl rfl 67 _ mJ (by kernel_rfl) rfl (aK _) ?_;refine hK _ _ ⟨.inl (by decide),?_⟩;clear hK K;refine ah rfl rfl (fun K hK=>?_);go_wp2_with fail;refine⟨.inl (by decide),?_⟩;refine aB ?_;obtain⟨wE,ik⟩:=ae (wN.setRow w2.heap.size (ax X));obtain⟨gE,iS⟩:=ae w2.heap.size;rw[←ik,←iS];have hf:Below W0.heap.size W0 wE:=by rw[ik];exact au nC nD _
       clear ik iS;exact hT g gE wE hf
     go_wp2_with fail;refine⟨(bq _ _),?_⟩;obtain⟨wN,eg⟩:∃Y,Y=w1.alloc (.cells #[.int .u64 0,.int .u64 0,.int .u64 0,.int .u64 0] 67):=⟨_,rfl⟩
     rw[←eg];have nC:Below W0.heap.size W0 wN:=by rw[eg];exact fA.alloc fA.size _
     have mJ:wN.heap[w1.heap.size]?=some (.cells (ax 0) 67 (0,0)):=by rw[eg];exact adk w1 _
     have nD:W0.heap.size≤w1.heap.size:=fA.size;have YO:Below w1.heap.size w1 wN:=by rw[eg];exact(adl _ _).alloc (adi _) _
     clear eg;refine ah rfl rfl (fun K hK=>?_);go_wp2_with fail;refine(HK.out g _ (Tn.below YO Tn.1)).mono ?_;rintro e w3 ⟨rfl,yM⟩;have kD:Below W0.heap.size W0 w3:=nC.trans (yM.mono nC.size);have abi:=(yM.block _ (adg.1 mJ).1).trans mJ;go_wp2_with fail;refine⟨.inr (av yM),?_⟩
     repeat ((first|(refine ao rfl (fun K hK=>?_)) );go_simp;(first|(refine hK _ ?_) );clear hK K;(try go_bits))
     refine ah rfl rfl (fun K hK=>?_);refine wp_store_row 67 (.tmp 3) (.tmp 9) rfl w1.heap.size (ax X) rfl rfl 67 _ abi (by kernel_rfl) rfl (aK _) ?_;refine hK _ _ ⟨.inl (by decide),?_⟩;clear hK K;refine ah rfl rfl (fun K hK=>?_);go_wp2_with fail;refine⟨.inl (by decide),?_⟩;refine aB ?_;obtain⟨wE,ik⟩:=ae (w3.setRow w1.heap.size (ax X));obtain⟨gE,iS⟩:=ae w1.heap.size;rw[←ik,←iS];have hf:Below W0.heap.size W0 wE:=by rw[ik];exact au kD nD _
     clear ik iS;exact hT g gE wE hf
   go_wp2_with fail;refine⟨(bq _ _),?_⟩;obtain⟨wN,eg⟩:∃Y,Y=(W0.alloc (.cells #[.int .u64 0,.int .u64 0,.int .u64 0,.int .u64 0] 67)).drew:=⟨_,rfl⟩
   rw[←eg];have nC:Below W0.heap.size W0 wN:=by rw[eg];exact((adl _ W0).alloc (adi _) _).drew
   have mJ:wN.heap[W0.heap.size]?=some (.cells (ax 0) 67 (0,0)):=by rw[eg];exact adk W0 _
   have nD:W0.heap.size≤W0.heap.size:=adi _;clear eg;refine ah rfl rfl (fun K hK=>?_);go_wp2_with fail;refine(rM _).mono ?_;rintro e w1 ⟨g,rfl,hg,NX,Tn,sX⟩;have fA:Below W0.heap.size W0 w1:=nC.trans (sX.mono nC.size);have YP:=(sX.block _ (adg.1 mJ).1).trans mJ;go_wp2_with fail;refine⟨.inr (av sX),?_⟩;refine ah rfl rfl (fun K hK=>?_);go_wp2_with fail;refine(HK.out g _ Tn).mono ?_;rintro e w2 ⟨rfl,mI⟩;have fZ:Below W0.heap.size W0 w2:=fA.trans (mI.mono fA.size);have Pj:=(mI.block _ (adg.1 YP).1).trans YP;go_wp2_with fail;refine⟨.inr (av mI),?_⟩
   repeat ((first|(refine ao rfl (fun K hK=>?_)) );go_simp;(first|(refine hK _ ?_) );clear hK K;(try go_bits))
   refine ah rfl rfl (fun K hK=>?_);refine wp_store_row 67 (.tmp 3) (.tmp 9) rfl W0.heap.size (ax X) rfl rfl 67 _ Pj (by kernel_rfl) rfl (aK _) ?_;refine hK _ _ ⟨.inl (by decide),?_⟩;clear hK K;refine ah rfl rfl (fun K hK=>?_);go_wp2_with fail;refine⟨.inl (by decide),?_⟩;refine aB ?_;obtain⟨wE,ik⟩:=ae (w2.setRow W0.heap.size (ax X));obtain⟨gE,iS⟩:=ae W0.heap.size;rw[←ik,←iS];have hf:Below W0.heap.size W0 wE:=by rw[ik];exact au fZ nD _
   clear ik iS;exact hT g gE wE hf
 rintro g gN wE yA;have l0:=de.trans (yA.mono de.size);clear HK bG yA;go_wp2_with fail;go_ret;exact⟨rfl,l0⟩
end Go.Proofs.YtnlkdheaohocnaaGreatDoor
namespace Go.Proofs.YtnlkdheaohocnaaGreatDoor
open Go.RowKit Go.Shelf
structure HKey where
 depth:UInt8
 finger:List UInt8
 child:Nat
 chain:List UInt8
 data:List UInt8
deriving DecidableEq
structure HKey.Ok (k:HKey):Prop where
 finger:k.finger.length=4
 chain:k.chain.length=32
 data:k.data.length=33
 child:k.child<4294967296
def aW (k:HKey):List Value:=.int .u8 (k.depth.toNat:Int)::(B8 k.finger++ .int .u32 (k.child:Int)::(B8 k.chain++B8 k.data))
def HKey.priv (k:HKey):Bool:=decide (k.data.getD 0 0=0)
def HKey.good (k:HKey):Bool:=if k.priv then dE (k.data.drop 1) else eu k.data
theorem bO {k:HKey} (h:k.Ok):(aW k).length=71:=by simp[aW,h.finger,h.chain,h.data]
theorem xF {k:HKey} (h:k.Ok) (j:Nat):(aW k)[38+j]?=(B8 k.data)[j]?:=by
 rw[aW,show 38+j=(37+j)+1 by omega,List.getElem?_cons_succ,adC (by simp[h.finger];omega)];rw[B8_length,h.finger,show 37+j-4=(32+j)+1 by omega,List.getElem?_cons_succ,adC (by simp[h.chain]),B8_length,h.chain];congr 1;omega
theorem bf (k:HKey):(aW k).toArray.all (·.oneCell')=true:=by
 have h8:∀(l:List UInt8),(B8 l).all (·.oneCell')=true:=fun l=>by
  apply List.all_eq_true.2;intro x hx;simp only[B8,List.mem_map] at hx;obtain⟨y,_,rfl⟩:=hx;rfl
 simp only[List.all_toArray,aW,List.all_cons,List.all_append,h8,Bool.and_true,Bool.true_and];rfl
theorem gx {w:World} {g t:Nat} {fr:Nat×Nat} {k:HKey} (h:k.Ok) (hg:w.heap[g]?=some (.cells (aW k).toArray t fr)) (j:Nat) (hj:j<k.data.length):w.cell? ⟨g,38+j,none⟩=some (.int .u8 (k.data[j].toNat:Int)):=by
 rw[adn _ _ _ _ _ _ hg,List.getElem?_toArray,xF h,adp (by simpa using hj),ed]
theorem iA (k:HKey) (hk:k.Ok) (w:World):
 Calls Tryz.prog 22 #[.agg (aW k).toArray] w fun e W'=>e=.returned (.bool k.priv)∧Below w.heap.size w W':=by
 obtain⟨cs,eA⟩:∃cs,cs=(aW k).toArray:=⟨_,rfl⟩;have h0:0<k.data.length:=by rw[hk.data];omega
 have aS:=fun (W:World) (g:Nat) (h:W.heap[g]?=some (.cells (aW k).toArray 30 (0,0)))=>gx hk h 0 h0
 obtain⟨y,hy⟩:∃y,y=k.data[0]:=⟨_,rfl⟩;simp only[←hy,Nat.add_zero,←eA] at aS;rw[←eA]
 have hP:k.priv=decide ((y.toNat:Int)=0):=by
  unfold HKey.priv;rw[List.getD_eq_getElem?_getD,adp h0,←hy];simp only[Option.getD_some]
  by_cases h:y=0
  · simp[h]
  have:¬y.toNat=0:=fun e=>h (UInt8.toNat_inj.1 e)
  simp[h,this]
 rw[hP];have hc:=aS _ _ (adk w (.cells cs 30));clear eA aS hy hP h0;go_enter Tryz.func22,Tryz.ntmps22;go_wp2_with (refine wpList_boxTo rfl 30 (.tmp 0) rfl _ rfl w.heap.size rfl cs rfl ?_);go_ret;exact⟨rfl,(adl _ w).alloc (adi _) _⟩
def L8:Array Value:=#[.int .u8 0,.int .u8 0,.int .u8 0,.int .u8 0,.int .u8 0,.int .u8 0,.int .u8 0,.int .u8 0,.int .u8 0,.int .u8 0,.int .u8 0,.int .u8 0,.int .u8 0,.int .u8 0,.int .u8 0,.int .u8 0,.int .u8 0,.int .u8 0,.int .u8 0,.int .u8 0,.int .u8 0,.int .u8 0,.int .u8 0,.int .u8 0,.int .u8 0,.int .u8 0,.int .u8 0,.int .u8 0,.int .u8 0,.int .u8 0,.int .u8 0,.int .u8 0]
theorem mL {P:Program} {arr e:TypeId} {n:Nat} (a:Option Addr) (len cap:Nat) (w:World) (hu:P.underlying arr=some (.array n e)) (hl:n≤len):(Instr.arrayAt arr (.slice a len cap)).run P w=.ok (.pointer a) w:=by
 unfold Instr.arrayAt;simp[run_underlying hu,go_sem,show¬len<n by omega]
theorem mN (k:HKey) (hk:k.Ok) (w:World):
 Calls Tryz.prog 25 #[.agg (aW k).toArray] w fun e W'=>e=.returned (.agg (B8 (k.data.drop 1)).toArray)∧Below w.heap.size w W':=by
 obtain⟨cs,eA⟩:∃cs,cs=(aW k).toArray:=⟨_,rfl⟩;have aS:=fun (W:World) (g:Nat) (h:W.heap[g]?=some (.cells (aW k).toArray 30 (0,0)))=>gx hk h
 rw[←eA] at aS⊢;have lZ:cs.size=71:=by rw[eA];simp[bO hk]
 obtain⟨sc,G9⟩:=ae (B8 (k.data.drop 1));have nh:sc.length=32:=by rw[G9];simp[hk.data]
 have iH:sc.toArray.all (·.oneCell')=true:=by rw[G9];simp only[List.all_toArray];exact List.all_eq_true.2 (aR _)
 rw[←G9];go_enter Tryz.func25,Tryz.ntmps25;have h2:=jm w (.cells cs 30) (.cells L8 24);obtain⟨W0,bD⟩:∃W0,W0=(w.alloc (.cells cs 30)).alloc (.cells L8 24):=⟨_,rfl⟩;have de:Below w.heap.size w W0:=by rw[bD];exact((adl _ w).alloc (adi _) _).alloc (by simp) _
 rw[←bD] at h2;obtain⟨gK,gO⟩:=h2
 have HR:Hid (W0.rangeAt w.heap.size 39 sc):=ab fun j v hv=>by
  have hj:j<sc.length:=(adE.1 hv).1;have hjd:1+j<k.data.length:=by rw[hk.data];omega
  have h:=aS W0 _ gK (1+j) hjd;rw[show 39+j=38+(1+j) by omega,h];rw[G9,kU,List.getElem?_drop,adp (by rw[B8_length];exact hjd),ed] at hv;exact hv
 have YQ:=ab (show (Tryz.prog.info? 24).map (·.size)=some sc.length by rw[nh];kernel_rfl);have YR:=ab (show (Tryz.prog.info? 24).map (·.size)=some sc.toArray.size by rw[List.size_toArray,nh];kernel_rfl);have HsZ:=ab (show L8.size=sc.toArray.size from(show 32=sc.toArray.size by rw[List.size_toArray,nh]));have OC:=ab iH;have GO:=ab gO;clear eA aS G9 nh iH gK gO;go_wp2_with (refine wpList_boxTo rfl 30 (.tmp 0) rfl _ rfl w.heap.size rfl cs rfl ?_);refine(show W0=_ from bD)▸?_;rw[mL (some ⟨w.heap.size,39,none⟩) 32 32 W0 Tryz.underlying24 (adi _)];clear bD lZ;go_wp2_with (first|(refine wpList_load_mid rfl 24 (.tmp 5) rfl w.heap.size 39 rfl sc _ HR.out Tryz.underlying24 rfl YQ.out ?_)|(refine ado rfl 24 (.tmp 2) (.tmp 6) rfl (w.heap.size+1) sc.toArray rfl rfl 24 _ GO.out YR.out HsZ.out OC.out ?_));refine adm (v:=.agg sc.toArray) ?_ rfl ⟨rfl,au de (by omega) _⟩;exact adr rfl _ _ (w.heap.size+1) 24 sc.toArray (0,0) _ rfl (adt _ _ _ _ _ _ GO.out) Tryz.underlying24 rfl YR.out
theorem nH (k:HKey) (hk:k.Ok) (w:World):
 Calls Tryz.prog 16 #[.agg (aW k).toArray] w fun e W'=>e=.returned (.bool k.good)∧Below w.heap.size w W':=by
 obtain⟨cs,eA⟩:∃cs,cs=(aW k).toArray:=⟨_,rfl⟩;have aS:=fun (W:World) (g:Nat) (h:W.heap[g]?=some (.cells (aW k).toArray 30 (0,0)))=>gx hk h
 have yR:=ab (fun ww=>iA k hk ww);have vF:=ab (fun ww=>mN k hk ww);rw[←eA] at aS yR vF⊢;obtain⟨tl,xa⟩:=ae (k.data.drop 1);have abj:tl.length=32:=by rw[xa,adH,hk.data]
 have HG0:Hid (k.good=if k.priv then dE tl else eu k.data):=ab (by rw[xa];rfl);simp only[←xa] at vF;clear xa;have lZ:cs.size=71:=by rw[eA];simp[bO hk]
 have J5:=ab (show (Tryz.prog.info? 30).map (·.size)=some cs.size by rw[lZ];kernel_rfl);clear eA;go_enter Tryz.func16,Tryz.ntmps16;have bG:=adk w (.cells cs 30);obtain⟨W0,bD⟩:=ae (w.alloc (.cells cs 30));rw[←bD] at bG;have de:Below w.heap.size w W0:=by rw[bD];exact(adl _ w).alloc (adi _) _
 obtain⟨B,hB⟩:=ae w.heap.size;have ju:=ab bG;have Pk:=ab (adg.1 bG).1;have nB:=ab (aS W0 _ bG);clear bG aS;clear lZ;go_wp2_with (first|(refine adw rfl 30 (.tmp 1) rfl w.heap.size rfl 30 cs (0,0) _ (adk w _) Tryz.underlying30 rfl J5.out ?_));refine(show W0=_ from bD)▸?_;rw[←hB] at ju Pk nB⊢;clear bD hB;refine(yR.out _).mono ?_;rintro e w1 ⟨rfl,bH⟩;have qq:=ab ((bH.block B Pk.out).trans ju.out);have fA:=de.trans (bH.mono de.size);obtain⟨p,hp⟩:=ae k.priv;have Hg:Hid (k.good=if p then dE tl else eu k.data):=ab (by rw[hp];exact HG0.out);rw[←hp];clear hp yR;have HcD:Hid (∀(j:Nat) (hj:j<k.data.length),w1.cell? ⟨B,38+j,none⟩=some (.int .u8 (k.data[j].toNat:Int))):=ab fun j hj=>(bH.cell (p:=⟨B,38+j,none⟩) Pk.out).trans (nB.out j hj)
 have mY:B<w1.heap.size:=ads Pk.out bH.size;clear ju nB bH
 cases p with
 |true=>
  go_wp2_with (refine adw rfl 30 (.tmp 1) rfl B rfl 30 cs (0,0) _ qq.out Tryz.underlying30 rfl J5.out ?_);refine(vF.out _).mono ?_;rintro e w2 ⟨rfl,bS⟩;go_wp2_with fail;refine(ID tl abj _).mono ?_;rintro e w3 ⟨rfl,b5⟩;go_wp2_with fail;go_ret;exact⟨by rw[Hg.out];rfl,(fA.trans (bS.mono fA.size)).trans (b5.mono (Nat.le_trans fA.size bS.size))⟩
 |false=>
  go_wp2_with fail
  have hs:Sl w1 w1.heap.size (some ⟨B,38,none⟩) (B8 k.data):=fun _=>⟨B,38,rfl,mY,fun j hj=>by
   rw[HcD.out j (by simpa using hj),ed]⟩
  have Pe:=yQ (some ⟨B,38,none⟩) 33 k.data (by rw[hk.data];exact adi _) w1 hs;rw[hk.data] at Pe;refine Pe.mono ?_;rintro e w2 ⟨rfl,bS⟩;go_wp2_with fail;go_ret;exact⟨by rw[Hg.out];rfl,fA.trans (bS.mono fA.size)⟩
theorem yS (x y n:Nat) (hy:y<2^n):x*2^n ||| y=x*2^n+y:=by
 have h:=Nat.shiftLeft_add_eq_or_of_lt hy x;rw[Nat.shiftLeft_eq] at h;exact h.symm
theorem be4 (a b c d:UInt8):bB [a,b,c,d]=a.toNat*16777216+b.toNat*65536+c.toNat*256+d.toNat:=by
 simp only[bB,List.foldl];omega
theorem Tt (a b c d:UInt8):bits .or .u32 (bits .or .u32 (bits .or .u32 ((a.toNat:Int)*16777216%4294967296) ((b.toNat:Int)*65536%4294967296)) ((c.toNat:Int)*256%4294967296)) (d.toNat:Int)=((bB [a,b,c,d]:Nat):Int):=by
 have ha:=a.toNat_lt;have hb:=b.toNat_lt;have hc:=c.toNat_lt;have hd:=d.toNat_lt;rw[show (a.toNat:Int)*16777216%4294967296=((a.toNat*16777216:Nat):Int) by omega,show (b.toNat:Int)*65536%4294967296=((b.toNat*65536:Nat):Int) by omega,show (c.toNat:Int)*256%4294967296=((c.toNat*256:Nat):Int) by omega]
 have e1:a.toNat*16777216 ||| b.toNat*65536=a.toNat*16777216+b.toNat*65536:=by
  have:=yS a.toNat (b.toNat*65536) 24 (by omega);simpa using this
 rw[nW _ _ (by omega) (by omega),e1]
 have e2:(a.toNat*16777216+b.toNat*65536) ||| c.toNat*256=a.toNat*16777216+b.toNat*65536+c.toNat*256:=by
  have:=yS (a.toNat*256+b.toNat) (c.toNat*256) 16 (by omega);rw[show (a.toNat*256+b.toNat)*2^16=a.toNat*16777216+b.toNat*65536 by omega] at this;exact this
 rw[nW _ _ (by omega) (by omega),e2]
 have e3:(a.toNat*16777216+b.toNat*65536+c.toNat*256) ||| d.toNat=a.toNat*16777216+b.toNat*65536+c.toNat*256+d.toNat:=by
  have:=yS (a.toNat*65536+b.toNat*256+c.toNat) d.toNat 8 (by omega);rw[show (a.toNat*65536+b.toNat*256+c.toNat)*2^8=a.toNat*16777216+b.toNat*65536+c.toNat*256 by omega] at this;exact this
 rw[nW _ _ (by omega) (by omega),e3,be4]
theorem Pl (a b c d:UInt8):bits .or .u32 (bits .or .u32 (bits .or .u32 ((a.toNat:Int)%4294967296*16777216%4294967296) ((b.toNat:Int)%4294967296*65536%4294967296)) ((c.toNat:Int)%4294967296*256%4294967296)) ((d.toNat:Int)%4294967296)=((bB [a,b,c,d]:Nat):Int):=by
 have ha:=a.toNat_lt;have hb:=b.toNat_lt;have hc:=c.toNat_lt;have hd:=d.toNat_lt;rw[show (a.toNat:Int)%4294967296=a.toNat by omega,show (b.toNat:Int)%4294967296=b.toNat by omega,show (c.toNat:Int)%4294967296=c.toNat by omega,show (d.toNat:Int)%4294967296=d.toNat by omega];exact Tt a b c d
def lG (n:Nat):List UInt8:=[UInt8.ofNat (n/16777216),UInt8.ofNat (n/65536),UInt8.ofNat (n/256),UInt8.ofNat n]
theorem BE (n:Nat) (h:n<4294967296):bB (lG n)=n:=by
 rw[lG,be4];simp only[UInt8.toNat_ofNat'];omega
theorem sw (A:Option Addr) (n c:Nat) (a b x d:UInt8) (bs:List UInt8) (w:World) (hs:Sl w w.heap.size A (B8 (a::b::x::d::bs))) (hn:n=bs.length+4):
 Calls Tryz.prog 21 #[.slice A n c] w fun e W'=>e=.returned (.int .u32 (bB [a,b,x,d]:Nat))∧Below w.heap.size w W':=by
 have bx:Tryz.prog.follows .mixedOrders=true:=by kernel_rfl
 obtain⟨b0,o0,rfl,de,aS⟩:=hs.at_ (k:=0) (by simp);have c0:w.cell? ⟨b0,o0,none⟩=some (.int .u8 (a.toNat:Int)):=aS 0 (by simp);have c1:w.cell? ⟨b0,o0+1,none⟩=some (.int .u8 (b.toNat:Int)):=aS 1 (by simp);have c2:w.cell? ⟨b0,o0+2,none⟩=some (.int .u8 (x.toNat:Int)):=aS 2 (by simp);have c3:w.cell? ⟨b0,o0+3,none⟩=some (.int .u8 (d.toNat:Int)):=aS 3 (by simp);obtain⟨v,hv⟩:∃v,v=bB [a,b,x,d]:=⟨_,rfl⟩;have hor:=Pl a b x d;rw[←hv] at hor⊢;have Vd:0<n:=by omega
 have hn3:3<n:=by omega
 clear aS hs hv hn;go_enter Tryz.func21,Tryz.ntmps21;go_wp2_with fail;refine aE [(0,0),(1,0),(2,1),(3,0),(4,0),(5,0),(6,0),(7,1),(8,0),(9,0),(10,0),(11,0),(12,0),(13,1),(14,0),(15,0),(16,0),(17,0),(18,0),(19,1),(20,0),(21,0),(22,0)] 23 bx (by kernel_rfl) (by intro c a d v w h;cases d<;>exact h) ?_
 repeat ((first|(refine ao rfl (fun K hK=>?_))|(refine aD rfl (fun K hK=>?_)));go_simp;(first|(refine hK _ ?_)|(simp only[IntWalk.iteOmega];go_simp;refine hK _ ?_) );clear hK K;(try go_bits))
 refine aB ?_;go_wp2_with fail;go_ret;exact⟨rfl,(adl _ w).drew⟩
theorem uM (n:Nat) (hn:n<4294967296) (w:World):
 Calls Tryz.prog 23 #[.int .u32 n] w fun e W'=>∃v,e=.returned v∧Ow W' w.heap.size 5 v (B8 (lG n))∧Below w.heap.size w W':=by
 go_enter Tryz.func23,Tryz.ntmps23;go_wp2_with fail;go_ret
 have hq:(#[.int .u8 ((n:Int)/16777216),.int .u8 ((n:Int)/65536%256),.int .u8 ((n:Int)/256%256),.int .u8 ((n:Int)%256)]:Array Value)=(B8 (lG n)).toArray:=by
  simp only[lG,B8,List.map,UInt8.toNat_ofNat'];rw[show ((n/16777216%2^8:Nat):Int)=(n:Int)/16777216 by omega,show ((n/65536%2^8:Nat):Int)=(n:Int)/65536%256 by omega,show ((n/256%2^8:Nat):Int)=(n:Int)/256%256 by omega,show ((n%2^8:Nat):Int)=(n:Int)%256 by omega]
 rw[hq];refine⟨_,rfl,?_,(adl _ w).alloc (adi _) _⟩;have h:=Ow.of_row (w:=w) (cap:=4) (B8 (lG n)).toArray 5 w.heap.size (adi _) (by simp[lG]) (by decide) 4 (adi _);have e:(B8 (lG n)).toArray.toList.take 4=B8 (lG n):=by simp[lG,B8]
 rw[e] at h;exact h
end Go.Proofs.YtnlkdheaohocnaaGreatDoor
namespace Go.Proofs.YtnlkdheaohocnaaGreatDoor
open Go Go.RowKit Go.Shelf
theorem BF (off:Nat):∀(vs:List Value) (k:Nat) (cells:Array Value),off+k+vs.length≤cells.size→
 (vs.zipIdx k).foldl (fun cs (cj:Value×Nat)=>cs.setIfInBounds (off+cj.2) cj.1) cells=(cells.toList.take (off+k)++(vs++cells.toList.drop (off+k+vs.length))).toArray
 |[],k,cells,h=>by simp
 |v::vs,k,cells,h=>by
  have hl:off+k<cells.size:=by simp at h;omega
  rw[List.zipIdx_cons,List.foldl_cons,BF off vs (k+1) _ (by simp at h⊢;omega)];congr 1
  have e1:(cells.setIfInBounds (off+k) v).toList.take (off+(k+1))=cells.toList.take (off+k)++[v]:=by
   rw[Array.toList_setIfInBounds,show off+(k+1)=off+k+1 by omega,adK (by simpa using hl),List.take_set_of_le (adi _),List.getElem_set_self]
  have e2:(cells.setIfInBounds (off+k) v).toList.drop (off+(k+1)+vs.length)=cells.toList.drop (off+k+(v::vs).length):=by
   rw[Array.toList_setIfInBounds,List.drop_set_of_lt (by omega)];congr 1;simp;omega
  show _++_=_;rw[e1,e2];simp
theorem IE (place:Nat→Option (Nat×Nat)) (cells:Array Value) (i off size:Nat) (v:Value) (rest:List (Nat×Value)) (hp:place i=some (off,size)) (hv:v.cells.size=size) (hc:off+size≤cells.size):
 Instr.fill place cells ((i,v)::rest)=Instr.fill place (cells.toList.take off++(v.cells.toList++cells.toList.drop (off+size))).toArray rest:=by
 rw[Instr.fill,hp];simp only[hv,ne_eq,not_true_eq_false,decide_false,Bool.false_or];rw[if_neg (by simp;omega)];congr 1;have h:=BF off v.cells.toList 0 cells (by simp[hv];omega);simp only[Nat.add_zero] at h;rw[show v.cells.toList.length=size by simp[hv]] at h;rw[←h,←Array.foldl_toList,Array.toList_zipIdx]
theorem jE (place:Nat→Option (Nat×Nat)) (i:Nat) (v:Value) (rest:List (Nat×Value)) (pre kP post:List Value) (hp:place i=some (pre.length,kP.length)) (hv:v.cells.size=kP.length):
 Instr.fill place (pre++(kP++post)).toArray ((i,v)::rest)=Instr.fill place (pre++(v.cells.toList++post)).toArray rest:=by
 rw[IE place _ i pre.length kP.length v rest hp hv (by simp)];congr 2;simp
section
variable {P:Program} {ops:Array Oper} {N:Nat} {Q:Act→World→Prop} {st:Nat→(Act→World→Prop)→Act→World→Prop}
theorem jN {i:Nat} {rest:List (Nat×Nat)} {o:Oper} {a:Act} {w:World} (ho:ops[i]?=some o) (lQ:o.guard=none) (arr:TypeId) (x:Operand) (cK:o.op=.sliceToArrayPointer arr x) (p:Option Addr) (len cap n:Nat) (e:TypeId) (hx:a.eval x=.slice p len cap)
 (hu:P.underlying arr=some (.array n e)) (hl:n≤len) (h:aI P ops Q st N rest (a.put o.dst (.pointer p)) w):
 aI P ops Q st N ((i,0)::rest) a w:=by
 simp only[aI,if_true,ho];refine⟨.pointer p,.inl ⟨by simp[Region.wanted,lQ],fun w' _=>?_⟩,h⟩;unfold execOp;simp only[cK,hx,Sem.run_bind,mL p len cap w' hu hl,Result.andThen_ok];rfl
theorem oY {i:Nat} {rest:List (Nat×Nat)} {o:Oper} {a:Act} {w:World} (ho:ops[i]?=some o) (lQ:o.guard=none) (t:TypeId) (parts:Array (Nat×Operand)) (cK:o.op=.build t parts) (cells:Array Value)
 (hf0:P.built t (parts.toList.map fun (i,x)=>(i,a.eval x))=some cells) (h:aI P ops Q st N rest (a.put o.dst (.agg cells)) w):
 aI P ops Q st N ((i,0)::rest) a w:=by
 have hf:P.built t (parts.map fun (i,x)=>(i,a.eval x)).toList=some cells:=by rw[Array.toList_map];exact hf0
 simp only[aI,if_true,ho];refine⟨.agg cells,.inl ⟨by simp[Region.wanted,lQ],fun w' _=>?_⟩,h⟩;unfold execOp;simp only[cK,Sem.run_bind,run_build w' t _ cells hf,Result.andThen_ok];rfl
end
section
variable {P:Program} {ops:Array Oper} {rest:List Oper} {o:Oper} {a:Act} {w:World} {Q:Exit→Act→World→Prop}
theorem bu (hw:Region.wanted o (yielded ops a.tmps)=true) (ty:TypeId) (x:Operand) (ho:o.op=.load ty x)
 (g:Nat) (hx:a.eval x=.pointer (some ⟨g,0,none⟩)) (t:TypeId) (cs:Array Value) (fr:Nat×Nat) (d:TypeDesc) (hg:w.heap[g]?=some (.cells cs t fr))
 (hu:P.underlying ty=some d) (hd:(match d with|.struct _|.array _ _=>true|_=>false)=true) (hi:(P.info? ty).map (·.size)=some cs.size)
 (h:wpList P ops Q rest (a.put o.dst (.agg cs)) w):wpList P ops Q (o::rest) a w:=
 BigFrame.wpList_want hw fun _ hK=>wp_load_row ty x ho g hx t cs fr d hg hu hd hi (hK _ _ h)
theorem aL (hw:Region.wanted o (yielded ops a.tmps)=true) (ty:TypeId) (x:Operand) (ho:o.op=.load ty x) (b off:Nat) (hx:a.eval x=.pointer (some ⟨b,off,none⟩)) (Pm:List Value) (d:TypeDesc) (hr:w.rangeAt b off Pm)
 (hu:P.underlying ty=some d) (hd:d.isRow=true) (hi:(P.info? ty).map (·.size)=some Pm.length)
 (h:wpList P ops Q rest (a.put o.dst (.agg Pm.toArray)) w):wpList P ops Q (o::rest) a w:=
 BigFrame.wpList_want hw fun _ hK=>wp_load_mid ty x ho b off hx Pm d hr hu hd hi (hK _ _ h)
end
def aP:HKey:=⟨0,[0,0,0,0],0,List.replicate 32 0,List.replicate 33 0⟩
theorem aC:aP.Ok:=⟨rfl,by simp[aP],by simp[aP],by decide⟩
theorem qu (parts:List (Nat×Value)):Tryz.prog.built 30 parts=Instr.fill (fun x=>(#[(0,1),(1,4),(5,1),(6,32),(38,33)]:Array (Nat×Nat))[x]?) (aW aP).toArray parts:=by kernel_rfl
theorem IF (k:HKey) (hk:k.Ok):Tryz.prog.built 30 [(0,.int .u8 (k.depth.toNat:Int)),(1,.agg (B8 k.finger).toArray),(2,.int .u32 (k.child:Int)),(3,.agg (B8 k.chain).toArray),(4,.agg (B8 k.data).toArray)]=some (aW k).toArray:=by
 rw[qu];have e0:(aW aP).toArray=([]++([Value.int .u8 0]++(B8 aP.finger++([Value.int .u32 0]++(B8 aP.chain++B8 aP.data))))).toArray:=rfl;rw[e0,jE _ 0 _ _ [] [.int .u8 0] _ rfl rfl];rw[adj,jE _ 1 _ _ _ (B8 aP.finger) _ rfl (by simp[Value.cells,hk.finger,aC.finger])];rw[←List.append_assoc,jE _ 2 _ _ _ [.int .u32 0] _ (by simp[Value.cells,hk.finger]) rfl];rw[←List.append_assoc,jE _ 3 _ _ _ (B8 aP.chain) _ (by simp[Value.cells,hk.finger,aP]) (by simp[Value.cells,hk.chain,aC.chain])];rw[←List.append_assoc,←List.append_nil (B8 aP.data),jE _ 4 _ _ _ (B8 aP.data) [] (by simp[Value.cells,hk.finger,hk.chain,aP]) (by simp[Value.cells,hk.data,aC.data])];rw[Instr.fill];simp[Value.cells,aW]
end Go.Proofs.YtnlkdheaohocnaaGreatDoor
namespace Go.Proofs.YtnlkdheaohocnaaGreatDoor
open Go
theorem je {P:Program} (w:World) (d:Nat) {e:TypeId} {q:IntKind} (hu:P.underlying e=some (.int q)) (he:P.plainKey e=true) (X Y:List Int) (xs ys:Array Value) (hx:xs=(X.map (Value.int q)).toArray) (hy:ys=(Y.map (Value.int q)).toArray) (hl:X.length=Y.length):
 ∀is:List Nat,(∀i∈is,i<X.length)→(Op.eqItems (d+1) e 1 xs ys is).run P w=.ok (is.all fun i=>X[i]! ==Y[i]!) w
 |[],_=>by simp[Op.eqItems]
 |i::is,h=>by
  have hi:=h i (by simp);have hi':i<Y.length:=by omega
  have h1:xs[i*1]?=some (.int q X[i]!):=by subst hx;simp[hi]
  have h2:ys[i*1]?=some (.int q Y[i]!):=by subst hy;simp[hi']
  simp only[Op.eqItems,Sem.run_bind,run_part_plain w he h1,run_part_plain w he h2,run_equalIn_int w d e q q _ _ hu,Result.andThen_ok];have ih:=je w d hu he X Y xs ys hx hy hl is (fun j hj=>h j (List.mem_cons_of_mem _ hj));rw[List.all_cons];generalize (X[i]! ==Y[i]!)=bb
  cases bb
  · rfl
  rw[Bool.true_and];exact ih
theorem qD (X Y:List Int) (hl:X.length=Y.length):((List.range X.length).all fun i=>X[i]! ==Y[i]!)=decide (X=Y):=by
 rw[Bool.eq_iff_iff,List.all_eq_true,decide_eq_true_iff];constructor
 · intro h
   apply List.ext_getElem hl;intro i h1 h2;have:=h i (List.mem_range.2 h1);simpa [h1,h2] using this
 rintro rfl i _;simp
theorem kH {P:Program} (w:World) {t e:TypeId} {q:IntKind} {n:Nat} (ht:P.underlying t=some (.array n e)) (hu:P.underlying e=some (.int q)) (he:P.plainKey e=true) (hc:P.cellsOf e=1) (X Y:List Int) (hX:X.length=n) (hY:Y.length=n):
 (Op.equal t (.agg (X.map (Value.int q)).toArray) (.agg (Y.map (Value.int q)).toArray)).run P w=.ok (decide (X=Y)) w:=by
 obtain⟨i,hi⟩:=info_of_underlying hu;rw[Op.equal,show Op.maxDepth=9998+1+1 from rfl,run_equalIn_array w _ _ _ ht hi,hc,je w _ hu he X Y _ _ rfl rfl (by omega) _ (fun j hj=>by rw[List.mem_range] at hj;omega),←hX,qD X Y (by omega)]
theorem Ev {P:Program} {ops:Array Oper} {N:Nat} {Q:Act→World→Prop} {st:Nat→(Act→World→Prop)→Act→World→Prop} {i:Nat} {rest:List (Nat×Nat)} {o:Oper} {a:Act} {w:World} (op:BinOp) (x y:Operand) (t t2 e:TypeId) (q:IntKind) (n:Nat) (X Y:List Int) (b:Bool)
 (ho:ops[i]?=some o) (hw:Region.wanted o (yielded ops a.tmps)=true) (cK:o.op=.binOp op t x y t2) (hx:a.eval x=.agg (X.map (Value.int q)).toArray) (hy:a.eval y=.agg (Y.map (Value.int q)).toArray)
 (ht:P.underlying t=some (.array n e)) (hu:P.underlying e=some (.int q)) (he:P.plainKey e=true) (hc:P.cellsOf e=1) (DN:P.eqGuardType P.depth t=false) (hX:X.length=n) (hY:Y.length=n) (hb:(op=.eql∧decide (X=Y)=b)∨(op=.neq∧(!decide (X=Y))=b))
 (h:aI P ops Q st N rest (a.put o.dst (.bool b)) w):aI P ops Q st N ((i,0)::rest) a w:=by
 simp only[aI,if_true,ho];refine⟨.bool b,.inl ⟨hw,fun W _=>?_⟩,h⟩;unfold execOp;have hr:=kH W ht hu he hc X Y hX hY;have mV:(Op.equalIn 10000 t (.agg (X.map (Value.int q)).toArray) (.agg (Y.map (Value.int q)).toArray)).run P W=.ok (decide (X=Y)) W:=hr;rcases hb with ⟨rfl,rfl⟩|⟨rfl,rfl⟩
 · simp only[cK,hx,hy]
   go_simp
 simp only[cK,hx,hy];go_simp
theorem cP {P:Program} {ops:Array Oper} {N:Nat} {Q:Act→World→Prop} {st:Nat→(Act→World→Prop)→Act→World→Prop} {i:Nat} {rest:List (Nat×Nat)} {o:Oper} {a:Act} {w:World} (ho:ops[i]?=some o) (hw:Region.wanted o (yielded ops a.tmps)=true) (ty:TypeId) (x:Operand) (cK:o.op=.load ty x) (g:Nat) (hx:a.eval x=.pointer (some ⟨g,0,none⟩)) (t:TypeId) (cs:Array Value) (fr:Nat×Nat) (d:TypeDesc) (hg:w.heap[g]?=some (.cells cs t fr))
 (hu:P.underlying ty=some d) (hd:(match d with|.struct _|.array _ _=>true|_=>false)=true) (hi:(P.info? ty).map (·.size)=some cs.size) (h:aI P ops Q st N rest (a.put o.dst (.agg cs)) w):
 aI P ops Q st N ((i,1)::rest) a w:=by
 simp only[aI,if_true,ho,Nat.one_ne_zero,if_false];exact⟨.agg cs,.inl ⟨hw,fun w' GA=>dj ty x cK g hx t cs fr d ((GA.below.block g (adg.1 hg).1).trans hg) hu hd hi⟩,h⟩
end Go.Proofs.YtnlkdheaohocnaaGreatDoor
namespace Go.Proofs.YtnlkdheaohocnaaGreatDoor
section
variable {N:Nat} [NeZero N]
theorem rW (a b:Nat):Fin.ofNat N (a+b)=Fin.ofNat N a+Fin.ofNat N b:=Fin.ext (by rw[Fin.val_add];show (a+b)%N=(a%N+b%N)%N;rw[←Nat.add_mod])
theorem rX (a b:Nat):Fin.ofNat N (a*b)=Fin.ofNat N a*Fin.ofNat N b:=Fin.ext (by rw[Fin.val_mul];show (a*b)%N=(a%N*(b%N))%N;rw[←Nat.mul_mod])
theorem Ex (a:Nat):Fin.ofNat N (a%N)=Fin.ofNat N a:=Fin.ext (by show a%N%N=a%N;rw[Nat.mod_mod])
theorem Mw {a b:Nat}:Fin.ofNat N a=Fin.ofNat N b↔a%N=b%N:=⟨fun h=>congrArg Fin.val h,fun h=>Fin.ext h⟩
theorem abt:Fin.ofNat N N=0:=Fin.ext (by show N%N=0%N;rw[Nat.mod_self,Nat.zero_mod])
theorem Ey {k s w e r d:Fin N} {ki:Fin N} (hk:k*ki=1) (hs:s=ki*(e+r*d)) (hw:s*w=1):e*w+d*(r*w)=k:=by
 have h1:k*s=e+r*d:=by subst hs;clear hw;grind
 clear hs hk
 grind
theorem BV {k s w e r d:Fin N} {ki:Fin N} (hk:k*ki=1) (hs:s=ki*(e+r*d)) (hw:(-s)*w=1):k+(e*w+d*(r*w))=0:=by
 have h1:k*s=e+r*d:=by subst hs;clear hw;grind
 clear hs hk
 grind
end
section
variable {n:Nat} [NeZero n] {inv:Fin n→Fin n} {G:Pt n} {N:Nat} [NeZero N]
theorem Zd (hF:Fld n inv) (h:Ord inv G N) {k d e r ki s s' w:Nat} (hk:k*ki%N=1) (hs:s=ki*(e+r*d)%N) (hs':s'=s∨(s≤N∧s'=N-s)) (hw:s'*w%N=1):
 cZ inv (fR inv G (e*w%N)) (fR inv (fR inv G d) (r*w%N))=fR inv G k∨cZ inv (fR inv G (e*w%N)) (fR inv (fR inv G d) (r*w%N))=nb (fR inv G k):=by
 have hN:=h.pri.1;have e0:cZ inv (fR inv G (e*w%N)) (fR inv (fR inv G d) (r*w%N))=fR inv G (e*w%N+d*(r*w%N)):=by rw[jl hF h.on,tq hF h.on]
 rw[e0]
 have one:∀{a b:Nat},a*b%N=1→Fin.ofNat N a*Fin.ofNat N b=1:=fun {a b} h1=>by
  rw[←rX];exact Fin.ext (by show a*b%N=1%N;rw[h1,adu hN])
 have pJ:=one hk;have kT:=one hw;have jt:Fin.ofNat N s=Fin.ofNat N ki*(Fin.ofNat N e+Fin.ofNat N r*Fin.ofNat N d):=by rw[hs,Ex,rX,rW,rX]
 have eU:Fin.ofNat N (e*w%N+d*(r*w%N))=Fin.ofNat N e*Fin.ofNat N w+Fin.ofNat N d*(Fin.ofNat N r*Fin.ofNat N w):=by
  rw[rW,Ex,rX,rX d,Ex,rX]
 rcases hs' with rfl|⟨hle,hs'⟩
 · left
   have h1:=Ey pJ jt kT;rw[←eU] at h1;rw[←h.mod hF (e*w%N+d*(r*w%N)),Mw.1 h1,h.mod hF]
 right
 have sV:Fin.ofNat N s'=-Fin.ofNat N s:=by
  have h2:Fin.ofNat N s+Fin.ofNat N s'=0:=by rw[←rW,hs',Nat.add_sub_cancel' hle,abt]
  clear jt pJ kT eU
  grind
 rw[sV] at kT;have h1:=BV pJ jt kT;rw[←eU,←rW] at h1;exact h.neg hF (by have:=congrArg Fin.val h1;exact this)
def Mx (inv:Fin n→Fin n) (G:Pt n) (N d e:Nat) (k:Nat):Prop:=k%N=0∨∃x,J4 (fR inv G k)=some x∧(x.val%N=0∨(e+x.val%N*d)%N=0)
def u5 (inv:Fin n→Fin n) (G:Pt n) (N:Nat) (k:Nat):Nat:=if k%N=0 then 0 else match J4 (fR inv G k) with
 |none=>0
 |some x=>if x.val%N=0 then (if x.val<N then 1 else 2) else (if x.val<N then 3 else 4)
omit [NeZero N] in
theorem Px (k:Nat):u5 inv G N k<5:=by
 unfold u5;split
 · omega
 split
 · omega
 split<;>split<;>omega
theorem pA {a b c:Nat} (h:(a+b)%N=(a+c)%N):b%N=c%N:=by
 have h1:=(Mw (N:=N)).2 h;rw[rW,rW] at h1;refine(Mw (N:=N)).1 ?_;generalize Fin.ofNat N a=x at h1;generalize Fin.ofNat N b=y at h1⊢;generalize Fin.ofNat N c=z at h1⊢;clear h
 grind
theorem BW (hN:Pri N) (hn:n≤2*N) {d e:Nat} (hd:¬N∣d) {a b:Nat} (ha:Mx inv G N d e a) (hb:Mx inv G N d e b) (h:u5 inv G N a=u5 inv G N b):
 (a%N=0∧b%N=0)∨J4 (fR inv G a)=J4 (fR inv G b):=by
 have yF:0<N:=by have:=hN.1;omega
 unfold u5 at h
 by_cases ha0:a%N=0
 · rw[if_pos ha0] at h
   by_cases de:b%N=0
   · exact .inl ⟨ha0,de⟩
   rw[if_neg de] at h;rcases hb with hb|⟨y,hy,_⟩
   · exact absurd hb de
   rw[hy] at h;simp only at h;split at h<;>split at h<;>omega
 rw[if_neg ha0] at h;rcases ha with ha|⟨x,hx,hxb⟩
 · exact absurd ha ha0
 rw[hx] at h;simp only at h
 by_cases de:b%N=0
 · rw[if_pos de] at h
   split at h<;>split at h<;>omega
 rw[if_neg de] at h;rcases hb with hb|⟨y,hy,hyb⟩
 · exact absurd hb de
 rw[hy] at h;simp only at h;right;rw[hx,hy];congr 1;have Vp:x.val<2*N:=ads x.isLt hn;have hyl:y.val<2*N:=ads y.isLt hn
 have key:x.val%N=y.val%N→(x.val<N↔y.val<N)→x=y:=fun h1 h2=>Fin.ext (by
  have e1:∀z,z<2*N→z%N=if z<N then z else z-N:=fun z hz=>by
   split
   · exact adu ‹_›
   rw[Nat.mod_eq_sub_mod (by omega),adu (by omega)]
  rw[e1 _ Vp,e1 _ hyl] at h1
  by_cases h3:x.val<N
  · rwa [if_pos h3,if_pos (h2.1 h3)] at h1
  rw[if_neg h3,if_neg (fun h4=>h3 (h2.2 h4))] at h1;have:=fun h4=>h3 (h2.2 h4)
  omega)
 by_cases xi:x.val%N=0
 · rw[if_pos xi] at h
   by_cases NQ:y.val%N=0
   · rw[if_pos NQ] at h
     refine key (by rw[xi,NQ]) ?_;split at h<;>split at h<;>omega
   rw[if_neg NQ] at h;split at h<;>split at h<;>omega
 rw[if_neg xi] at h
 by_cases NQ:y.val%N=0
 · rw[if_pos NQ] at h
   split at h<;>split at h<;>omega
 rw[if_neg NQ] at h;have yf:=hxb.resolve_left xi;have zH:=hyb.resolve_left NQ;have h3:=pA (yf.trans zH.symm);rw[Nat.mul_comm _ d,Nat.mul_comm _ d] at h3;have h4:=yE hN hd h3;rw[Nat.mod_mod,Nat.mod_mod] at h4;refine key h4 ?_;split at h<;>split at h<;>omega
theorem My:∀l:List Nat,(∀x∈l,x<5)→l.length=l.count 0+l.count 1+l.count 2+l.count 3+l.count 4
 |[],_=>rfl
 |x::l,h=>by
  have ih:=My l (fun y hy=>h y (by simp[hy]));have hx:=h x (by simp);simp only[adz,List.count_cons,beq_iff_eq];rw[ih];have:x=0∨x=1∨x=2∨x=3∨x=4:=by omega
  rcases this with rfl|rfl|rfl|rfl|rfl<;>simp<;>omega
theorem IT (hF:Fld n inv) (h:Ord inv G N) (hn:n≤2*N) (GQ:16<N) {d e:Nat} (hd:¬N∣d) (k0:Nat):∃j,j<16∧¬Mx inv G N d e (k0+j):=by
 refine Classical.byContradiction fun hc=>?_
 have dc:∀j,j<16→Mx inv G N d e (k0+j):=fun j hj=>Classical.byContradiction fun hb=>hc ⟨j,hj,hb⟩
 have bN:∀i j,i<16→j<16→i≠j→(k0+i)%N≠(k0+j)%N:=fun i j hi hj Od he=>by
  have:=pA he;rw[adu (by omega),adu (by omega)] at this;exact Od this
 have lL:∀c,((List.range 16).map fun j=>u5 inv G N (k0+j)).count c≤2:=fun c=>by
  rw[List.count_eq_countP,List.countP_map,List.countP_eq_length_filter];have vI:((List.range 16).filter ((fun x=>x==c)∘fun j=>u5 inv G N (k0+j))).Nodup:=List.nodup_range.filter _
  have hm:∀i∈(List.range 16).filter ((fun x=>x==c)∘fun j=>u5 inv G N (k0+j)),i<16∧u5 inv G N (k0+i)=c:=fun i hi=>by
   have:=List.mem_filter.1 hi;exact⟨List.mem_range.1 this.1,by simpa using this.2⟩
  revert vI hm;generalize (List.range 16).filter ((fun x=>x==c)∘fun j=>u5 inv G N (k0+j))=l;intro vI hm
  match l,vI,hm with
  |[],_,_=>exact adF _
  |[_],_,_=>exact Nat.le_succ 1
  |[_,_],_,_=>exact adi 2
  |i::j::k::_,vI,hm=>
   exfalso;obtain⟨hi,ci⟩:=hm i (by simp);obtain⟨hj,cj⟩:=hm j (by simp);obtain⟨hk,ck⟩:=hm k (by simp);simp only[List.nodup_cons,List.mem_cons,not_or] at vI;obtain⟨⟨Od,hik,_⟩,⟨Fl,_⟩,_⟩:=vI;have n1:=bN i j hi hj Od;have n2:=bN i k hi hk hik;have n3:=bN j k hj hk Fl;have s1:=BW h.pri hn hd (dc i hi) (dc j hj) (ci.trans cj.symm);have s2:=BW h.pri hn hd (dc i hi) (dc k hk) (ci.trans ck.symm);rcases s1 with ⟨a1,a2⟩|s1
   · exact n1 (a1.trans a2.symm)
   rcases s2 with ⟨a1,a2⟩|s2
   · exact n2 (a1.trans a2.symm)
   have t1:=(h.x_inj hF s1).resolve_left n1;have t2:=(h.x_inj hF s2).resolve_left n2;exact n3 (pA (t1.trans t2.symm))
 have h5:=My ((List.range 16).map fun j=>u5 inv G N (k0+j)) (fun x hx=>by
  obtain⟨j,_,rfl⟩:=List.mem_map.1 hx;exact Px _)
 have e0:=lL 0;have e1:=lL 1;have e2:=lL 2;have e3:=lL 3;have e4:=lL 4;rw[List.length_map,List.length_range] at h5;omega
end
end Go.Proofs.YtnlkdheaohocnaaGreatDoor

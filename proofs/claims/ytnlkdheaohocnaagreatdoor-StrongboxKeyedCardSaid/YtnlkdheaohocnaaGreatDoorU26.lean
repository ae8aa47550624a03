/- Whoever walks down with the secret signs what whoever walks down without it verifies, and the text of either walks the same way (StrongboxKeyed). No condition. -/
import Derived.Test.YtnlkdheaohocnaaGreatDoorU1
import Derived.Test.YtnlkdheaohocnaaGreatDoorU25
import Derived.Test.YtnlkdheaohocnaaGreatDoorU23
import Derived.Test.YtnlkdheaohocnaaGreatDoorU21
import Derived.Test.YtnlkdheaohocnaaGreatDoorU22
import Derived.Test.YtnlkdheaohocnaaGreatDoorU14
import Derived.ArgAppend
import Derived.Deep.DeepCutAuto
import Derived.Test.YtnlkdheaohocnaaGreatDoorU24
set_option maxRecDepth 1000000
set_option maxHeartbeats 16000000
set_option linter.unusedVariables false
set_option linter.unusedSimpArgs false
namespace Go.Proofs.YtnlkdheaohocnaaGreatDoor
open Go.RowKit Go.Shelf
theorem BR (f t z:Nat) (l:List UInt8):dk f t (List.replicate z 0++l)=dk f t l:=by
 induction z with
 |zero=>rfl
 |succ z ih=>rw[List.replicate_succ,adh,←ih];rfl
theorem sZ (s:List UInt8):s=List.replicate (s.length-(s.dropWhile (·==49)).length) 49++s.dropWhile (·==49):=by
 induction s with
 |nil=>rfl
 |cons c s ih=>
  by_cases h:c=49
  · have hl:(s.dropWhile (·==49)).length≤s.length:=(List.dropWhile_sublist _).length_le
    rw[List.dropWhile_cons_of_pos (by simpa using h),adz,show s.length+1-(s.dropWhile (·==49)).length=(s.length-(s.dropWhile (·==49)).length)+1 by omega,List.replicate_succ,adh,←ih,h]
  rw[List.dropWhile_cons_of_neg (by simpa using h)];simp
theorem yW (s:List UInt8):dk 58 256 (s.map jF)=dk 58 256 ((s.dropWhile (·==49)).map jF):=by
 have h:s.map jF=List.replicate (s.length-(s.dropWhile (·==49)).length) 0++(s.dropWhile (·==49)).map jF:=by
  conv=>lhs;rw[sZ s]
  rw[List.map_append,List.map_replicate];rfl
 rw[h,BR]
theorem IP (s:List UInt8):(eI s).2.length≤250:=by
 unfold eI;split
 · simp
 rename_i acK;split
 · rename_i dc
   rw[adv,List.length_replicate,List.length_reverse,yW]
   have h1:=uS 58 256 (by omega) (by omega) (by omega) (by omega) ((s.dropWhile (·==49)).map jF) (fun d hd=>by
    obtain⟨c,hc,rfl⟩:=List.mem_map.1 hd;exact BO c (dc c ((List.dropWhile_sublist _).subset hc)))
   rw[List.length_map] at h1;have hl:(s.dropWhile (·==49)).length≤s.length:=(List.dropWhile_sublist _).length_le;omega
 simp
def lp (s:List UInt8):Nat×List UInt8:=
 if (eI s).1≠0 then ((eI s).1,[])
 else if (eI s).2.length<4 then (4,[])
 else if (oI (oI ((eI s).2.take ((eI s).2.length-4)))).take 4=(eI s).2.drop ((eI s).2.length-4) then (0,(eI s).2.take ((eI s).2.length-4))
 else (5,[])
theorem IQ (s:List UInt8):(eI s).1=0∨(eI s).1=2∨(eI s).1=3:=by
 unfold eI;split
 · simp
 split<;>simp
theorem Es (A C:Option Addr) (n m:Nat) (a b:List UInt8) (w:World) (ha:Sl w w.heap.size A (B8 a)) (hb:Sl w w.heap.size C (B8 b)):
 Calls Tryz.prog 63 #[.slice A a.length n,.slice C b.length m] w fun e w'=>e=.returned (.bool (a==b))∧w=w':=by
 have e1:=ke (P:=Tryz.prog) w 22 9 5 Tryz.underlying22 Tryz.underlying5 Tryz.underlying9 _ A n a ha;have e2:=ke (P:=Tryz.prog) w 22 9 5 Tryz.underlying22 Tryz.underlying5 Tryz.underlying9 _ C m b hb;clear ha hb;go_enter Tryz.func63,Tryz.ntmps63;go_wp2;go_ret;exact⟨rfl,rfl⟩
theorem Mq (A:Option Addr) (n c:Nat) (w:World) (RA:n≤c):
 Calls Tryz.prog 64 #[.slice A n c] w fun e w'=>e=.returned (.slice A n n)∧w=w':=by
 go_enter Tryz.func64,Tryz.ntmps64;go_wp2;go_ret;exact⟨rfl,rfl⟩
theorem yX (s:ByteArray) (w:World) (eD:s.size≤4096):
 Calls Tryz.prog 20 #[.string s] w fun e W'=>∃A c,e=.returned (.tuple #[.slice A (lp s.data.toList).2.length c,.int .i64 ((lp s.data.toList).1:Int)])∧Sl W' W'.heap.size A (B8 (lp s.data.toList).2)∧((lp s.data.toList).2.length≤c∧c≤maxLen)∧Below w.heap.size w W':=by
 have bx:Tryz.prog.follows .mixedOrders=true:=by kernel_rfl
 obtain⟨F,hF⟩:=ae (lp s.data.toList);obtain⟨S,hS⟩:=ae s.data.toList;have F5:=En s w eD;rw[←hF];rw[←hS] at F5 hF;obtain⟨E,hE⟩:∃E,E=(eI S).1:=⟨_,rfl⟩;obtain⟨B,hB⟩:∃B,B=(eI S).2:=⟨_,rfl⟩;have QZ:B.length≤250:=by rw[hB];exact IP S
 have hE5:E=0∨E=2∨E=3:=by rw[hE];exact IQ S
 rw[lp,←hE,←hB] at hF;rw[←hE,←hB] at F5;have Q0:=ab F5;have HF:=ab hF;clear F5 hF hS hE hB
 by_cases qA:E=0
 · subst qA
   go_enter Tryz.func20,Tryz.ntmps20;go_wp2_with fail;refine Q0.out.mono ?_;rintro e w1 ⟨v,rfl,ho,hb⟩;obtain⟨Av,cv,rfl,JR,IN⟩:=bw ho;obtain⟨n,hn⟩:=ae B.length;rw[←hn];rw[←hn] at ho JR QZ
   by_cases h4:n<4
   · have Eo:F=(4,[]):=by rw[HF.out,if_neg (by simp),if_pos (by omega)]
     have J7:=ab Eo;clear Eo hn;go_wp2_with fail;go_ret2;rw[J7.out];exact⟨none,0,rfl,Sl.nil,⟨adi _,adF _⟩,hb⟩
   obtain⟨m,hm⟩:∃m,m=n-4:=⟨_,rfl⟩;have em:(n:Int)-4=(m:Int):=by omega
   have hmn:m≤n:=by omega
   have hmc:m≤cv:=by omega
   have If:Sl w1 w1.heap.size Av (B8 B):=ho.sl;have vV:(B.take m).length=m:=by simp;omega
   have Y1:(B.drop m).length=4:=by simp;omega
   have Mr:=uc Av cv (B.take m) w1 (by rw[jg];exact If.take m) (by omega) (by omega) IN;rw[vV] at Mr;obtain⟨h1,qQ⟩:=ae (oI (oI (B.take m)));have lE:h1.length=32:=by rw[qQ];exact eM _
   rw[←qQ] at Mr;obtain⟨oc,fU⟩:∃oc,oc=(B8 h1).toArray:=⟨_,rfl⟩;have dv:oc.size=32:=by rw[fU];simp[lE]
   have cG:Hid ((Tryz.prog.info? 25).map (·.size)=some oc.size):=ab (by rw[dv];kernel_rfl);have jy:Hid ((Array.replicate 32 (Value.int .u8 0)).size=oc.size):=ab (by rw[dv];simp);have gn:Hid (oc.all (·.oneCell')=true):=ab (by rw[fU];exact all_oneCell_toArray (aR _));rw[←fU] at Mr;have abp:=ab Mr;have pH:=ab fU;have FC:=ab qQ;have Hn:=ab hn;have Hm:=ab hm;have Htk:=ab vV;have Hdr:=ab Y1;clear Mr fU qQ dv hn hm vV Y1;go_wp2_with fail;refine abp.out.mono ?_;rintro e w2 ⟨rfl,oV⟩;have mo:=oV.size;go_wp2_with (refine ado rfl 25 (.tmp 7) (.tmp 24) rfl w2.heap.size oc rfl rfl 25 _ (adk w2 _) cG.out jy.out gn.out ?_;rw[adJ]);obtain⟨w3,Y2⟩:=ae (w2.alloc (.cells oc 25));obtain⟨gh,xo⟩:=ae w2.heap.size;rw[←xo,←Y2];have sO:Below w2.heap.size w2 w3:=by rw[Y2];exact(adl _ _).alloc (adi _) _
   have KW:w3.heap.size=w2.heap.size+1:=by rw[Y2];exact adD _ _
   have lV:w3.heap[gh]?=some (.cells (B8 h1).toArray 25 (0,0)):=by rw[Y2,←pH.out,xo];exact adk w2 _
   have Y3:=oV.trans (sO.mono mo);have Y0:Sl w3 w3.heap.size Av (B8 B):=(If.below Y3).mono (by omega)
   have Qw:Sl w3 w3.heap.size (some ⟨gh,0,none⟩) (B8 (h1.take 4)):=fun _=>⟨_,0,rfl,by omega,fun j hj=>by
    have hj4:j<4:=by simp at hj;omega
    rw[adn w3 _ _ _ _ (0,0) lV,Nat.zero_add,ed];simp[B8,lE,show j<32 by omega]⟩
   have b5:=hb.trans (Y3.mono hb.size);have Y4:Sl w3 w3.heap.size Av (B8 (B.take m)):=by rw[jg];exact Y0.take m
   have hY3:Sl w3 w3.heap.size (Av.map fun x=>x.add m) (B8 (B.drop m)):=by
    have h:=Y0.cutf (k:=m) (cap:=cv) (fun x=>x.add m) (fun b o=>j9 b o m) (by rw[B8_length,←Hn.out];exact JR) (by rw[B8_length,←Hn.out];exact hmn);rw[if_neg (by have:=Hm.out;omega)] at h;rw[kU];exact h
   have heq:=Es (some ⟨gh,0,none⟩) (Av.map fun x=>x.add m) 32 (cv-m) (h1.take 4) (B.drop m) w3.drew Qw hY3;rw[Hdr.out,show (h1.take 4).length=4 by simp[lE]] at heq;have hnm:n-m=4:=by have:=Hm.out;omega
   have Heq:=ab heq;have abq:=ab Y4;clear lV Y2 xo cG jy gn pH Qw hY3 Y0 heq Y4 ho If KW
   have YU:F=if h1.take 4=B.drop m then (0,B.take m) else (5,[]):=by
    have hl4:¬B.length<4:=by have:=Hn.out;omega
    rw[HF.out,if_neg (by simp),if_neg hl4,←Hn.out,←Hm.out,←FC.out]
   have Dc:=ab YU;clear YU;refine aE [(0,0),(1,0),(2,0),(3,0),(4,2),(5,0)] 6 bx (by kernel_rfl) (by intro c a d v w h;cases d<;>exact h) ?_
   repeat ((first|(refine ao rfl (fun K hK=>?_)) );go_simp;(first|(refine hK _ ?_) );clear hK K;(try go_bits))
   refine ah rfl rfl (fun K hK=>?_);go_wp2_with fail;refine Heq.out.mono ?_;rintro e w4 ⟨rfl,rfl⟩
   by_cases hq:h1.take 4=B.drop m
   · have Eo:F=(0,B.take m):=by rw[Dc.out,if_pos hq]
     have J7:=ab Eo;rw[show (h1.take 4==B.drop m)=true by simpa using hq];clear Eo hq;go_wp2_with fail;refine⟨(by first|exact .inr (Ext.refl _) ),?_⟩
     repeat ((first|(refine ao rfl (fun K hK=>?_)) );go_simp;(first|(refine hK _ ?_) );clear hK K;(try go_bits))
     refine aB ?_;go_wp2_with fail;have gb:=Mq Av m cv w3.drew hmc;refine gb.mono ?_;rintro e w5 ⟨rfl,rfl⟩;go_wp2_with fail;go_ret2;rw[J7.out];refine⟨Av,m,?_,abq.out,⟨?_,by omega⟩,b5.drew⟩
     · rw[Htk.out];rfl
     exact Nat.le_of_eq Htk.out
   have Eo:F=(5,[]):=by rw[Dc.out,if_neg hq]
   have J7:=ab Eo;rw[show (h1.take 4==B.drop m)=false by simpa using hq];clear Eo hq;go_wp2_with fail;refine⟨(by first|exact .inr (Ext.refl _) ),?_⟩
   repeat ((first|(refine ao rfl (fun K hK=>?_)) );go_simp;(first|(refine hK _ ?_) );clear hK K;(try go_bits))
   refine aB ?_;go_wp2_with fail;go_ret2;rw[J7.out];exact⟨none,0,rfl,Sl.nil,⟨adi _,adF _⟩,b5.drew⟩
 have acL:¬((E:Int)=0):=by omega
 go_enter Tryz.func20,Tryz.ntmps20;go_wp2_with fail;refine Q0.out.mono ?_;rintro e w1 ⟨v,rfl,ho,hb⟩;go_wp2_with fail;go_ret2;rw[HF.out,if_pos qA];exact⟨none,0,rfl,Sl.nil,⟨adi _,adF _⟩,hb⟩
end Go.Proofs.YtnlkdheaohocnaaGreatDoor
namespace Go.Proofs.YtnlkdheaohocnaaGreatDoor
open Go Go.RowKit Go.Shelf
def uT (b:List UInt8):HKey:=⟨b.getD 4 0,(b.drop 5).take 4,bB ((b.drop 9).take 4),(b.drop 13).take 32,b.drop 45⟩
def jd (p:Bool):Nat:=if p then 76066276 else 76067358
def rU (k:HKey):Bool:=decide (0<k.depth.toNat)||(decide (k.finger=[0,0,0,0])&&decide (k.child=0))
def uU (b:List UInt8):Nat×HKey:=if b.length=78 then (if decide (bB (b.take 4)=jd (uT b).priv)&&(uT b).good&&rU (uT b) then (0,uT b) else (3,aP)) else (2,aP)
def uV (s:List UInt8):Nat×HKey:=if (lp s).1=0 then uU (lp s).2 else ((lp s).1,aP)
theorem Pr (b:List UInt8) (h:b.length=78):(uT b).Ok:=
 ⟨by simp[uT,h],by simp[uT,h],by simp[uT,h],by
  have:=fV ((b.drop 9).take 4);have h4:((b.drop 9).take 4).length=4:=by simp[h]
  rw[h4] at this;exact this⟩
end Go.Proofs.YtnlkdheaohocnaaGreatDoor
namespace Go.Proofs.YtnlkdheaohocnaaGreatDoor
def nJ:Pt ak:=some (gX,gY)
def BS (k:HKey):Nat:=bB (k.data.drop 1)
def eC (d:Nat):Pt ak:=fR bM nJ d
def iE (k:HKey):List UInt8:=if k.priv then fj (eC (BS k)) else k.data
section
variable (hm:List UInt8→List UInt8→List UInt8)
def dz (k:HKey) (n:Nat):List UInt8:=hm k.chain ((if 2147483648≤n then k.data else iE k)++lG n)
def Et (f:List UInt8) (k:HKey) (n:Nat) (d:List UInt8):HKey:=⟨k.depth+1,f,n,(dz hm k n).drop 32,d⟩
def dA (f:List UInt8) (k:HKey) (n:Nat):Nat×HKey:=
 if k.good=false then (3,aP)
 else if k.depth=255 then (2,aP)
 else if 2147483648≤n∧k.priv=false then (1,aP)
 else if ar≤bB ((dz hm k n).take 32) then (7,aP)
 else if k.priv then
  (if (BS k+bB ((dz hm k n).take 32))%ar=0 then (7,aP) else (0,Et hm f k n (0::iI ((BS k+bB ((dz hm k n).take 32))%ar) 32)))
 else match cZ bM (fH k.data) (eC (bB ((dz hm k n).take 32))) with
  |none=>(7,aP)
  |P=>(0,Et hm f k n (fj P))
def cI (k:HKey):List Nat→(Nat→List UInt8)→Nat×HKey
 |[],_=>(0,k)
 |n::r,f=>if (dA hm (f 0) k n).1=0 then cI (dA hm (f 0) k n).2 r (fun i=>f (i+1)) else ((dA hm (f 0) k n).1,aP)
end
def Bare (a b:HKey):Prop:=∃d,0<d∧d<ar∧a.data=0::iI d 32∧b.data=fj (eC d)∧b.depth=a.depth∧b.chain=a.chain
theorem mP:ar<256^32:=by decide+kernel
theorem mQ (d:Nat):(eC d).On:=ij fz qd d
theorem rV (d:Nat):eC d=none↔ar∣d:=L7.zero fz d
theorem Ms (d:Nat):eC (d%ar)=eC d:=L7.mod fz d
theorem Mt (a b:Nat):eC (a+b)=cZ bM (eC a) (eC b):=jl fz qd a b
theorem qB {d:Nat} (h0:0<d) (h:d<ar):eC d≠none:=fun h1=>by
 have:=Nat.le_of_dvd h0 ((rV d).1 h1);omega
theorem uW (P:Pt ak):(fj P).getD 0 0≠0:=by
 rcases P with _|⟨x,y⟩
 · decide
 show UInt8.ofNat (2+y.val%2)≠0;rcases (show y.val%2=0∨y.val%2=1 by omega) with h3|h3<;>rw[h3]<;>decide
theorem Bare.facts {a b:HKey} (h:Bare a b):a.priv=true∧b.priv=false∧a.good=true∧b.good=true∧iE b=iE a:=by
 obtain⟨d,h0,hd,ha,hb,_,_⟩:=h;have hp:a.priv=true:=by rw[HKey.priv,ha];rfl
 have hbp:b.priv=false:=by
  rw[HKey.priv,hb];exact adI (uW _)
 have hs:bB (iI d 32)=d:=jn d 32 (Nat.lt_trans hd mP);refine⟨hp,hbp,?_,?_,?_⟩
 · rw[HKey.good,if_pos hp,ha]
   show (decide (bB (iI d 32)≠0)&&decide (bB (iI d 32)<ar))=true;rw[hs,adA (by omega),adA hd];rfl
 · rw[HKey.good,if_neg (by rw[hbp];decide),hb]
   exact(mK (mQ d) (qB h0 hd)).1
 rw[iE,iE,if_neg (by rw[hbp];decide),if_pos hp,BS,ha,hb];show fj (eC d)=fj (eC (bB (iI d 32)));rw[hs]
section
variable (hm:List UInt8→List UInt8→List UInt8)
theorem IS (f g:List UInt8) {a b:HKey} (h:Bare a b) {n:Nat} (hn:n<2147483648):
 (dA hm f a n).1=(dA hm g b n).1∧((dA hm f a n).1=0→Bare (dA hm f a n).2 (dA hm g b n).2):=by
 obtain⟨TO,Pe,hga,hgb,fP⟩:=h.facts;obtain⟨d,h0,hd,ha,hb,Y5,TP⟩:=h
 have hs:BS a=d:=by
  rw[BS,ha];exact jn d 32 (Nat.lt_trans hd mP)
 have Mu:dz hm b n=dz hm a n:=by
  rw[dz,dz,if_neg (by omega),if_neg (by omega),fP,TP]
 have abr:fH b.data=eC d:=by
  rw[hb];exact(mK (mQ d) (qB h0 hd)).2
 obtain⟨t,ht⟩:=ae (bB ((dz hm a n).take 32));have yF:0<ar:=by omega
 have ea:¬(a.good=false):=by rw[hga];decide
 have eb:¬(b.good=false):=by rw[hgb];decide
 have fa:¬(2147483648≤n∧a.priv=false):=fun h=>by omega
 have fb:¬(2147483648≤n∧b.priv=false):=fun h=>by omega
 have pb:¬(b.priv=true):=by rw[Pe];decide
 unfold dA;rw[if_neg ea,if_neg eb,Y5,Mu,←ht]
 by_cases lI:a.depth=255
 · rw[if_pos lI,if_pos lI]
   exact⟨rfl,fun h=>by cases h⟩
 rw[if_neg lI,if_neg lI,if_neg fa,if_neg fb]
 by_cases wg:ar≤t
 · rw[if_pos wg,if_pos wg]
   exact⟨rfl,fun h=>by cases h⟩
 rw[if_neg wg,if_neg wg,if_pos TO,if_neg pb,abr,←Mt,hs]
 by_cases hz:(d+t)%ar=0
 · rw[if_pos hz,(rV (d+t)).2 (Nat.dvd_of_mod_eq_zero hz)]
   exact⟨rfl,fun h=>by cases h⟩
 rw[if_neg hz];have bN:eC (d+t)≠none:=fun h=>hz (Nat.mod_eq_zero_of_dvd ((rV _).1 h))
 cases hP:eC (d+t) with
 |none=>exact absurd hP bN
 |some p=>
  refine⟨rfl,fun _=>⟨(d+t)%ar,Nat.pos_of_ne_zero hz,Nat.mod_lt _ yF,rfl,?_,?_,?_⟩⟩
  · show fj (some p)=fj (eC ((d+t)%ar))
    rw[Ms,hP]
  · show b.depth+1=a.depth+1
    rw[Y5]
  show (dz hm b n).drop 32=(dz hm a n).drop 32;rw[Mu]
theorem xH:∀(p:List Nat) (f g:Nat→List UInt8) {a b:HKey},Bare a b→(∀n∈p,n<2147483648)→
 (cI hm a p f).1=(cI hm b p g).1∧((cI hm a p f).1=0→Bare (cI hm a p f).2 (cI hm b p g).2)
 |[],_,_,_,_,h,_=>⟨rfl,fun _=>h⟩
 |n::r,f,g,a,b,h,hp=>by
  obtain⟨h1,h2⟩:=IS hm (f 0) (g 0) h (hp n (by simp));unfold cI;rw[←h1]
  by_cases h0:(dA hm (f 0) a n).1=0
  · rw[if_pos h0,if_pos h0]
    exact xH r _ _ (h2 h0) (fun x hx=>hp x (by simp[hx]))
  rw[if_neg h0,if_neg h0];exact⟨rfl,fun h=>absurd h h0⟩
end
end Go.Proofs.YtnlkdheaohocnaaGreatDoor
namespace Go.Proofs.YtnlkdheaohocnaaGreatDoor
open Go Go.RowKit Go.Shelf
theorem Mem.add {w0 w w1:World} {L:List (Nat×TypeId×Array Value)} {g t:Nat} {cs:Array Value} (h:Mem w0 w L) (hb:Below w.heap.size w w1) (hg:w.heap.size≤g) (hr:w1.heap[g]?=some (.cells cs t (0,0))):Mem w0 w1 ((g,t,cs)::L):=
 h.join (F:=[(g,t,cs)]) (av hb) (fun f hf=>by rw[List.mem_singleton] at hf;subst hf;exact⟨hr,hg⟩) (by simp)
theorem uX (w:World):Calls Tryz.prog 27 #[] w fun e W'=>∃g,e=.returned (.pointer (some ⟨g,0,none⟩))∧w.heap.size≤g∧W'.heap[g]?=some (.cells kC 74 (0,0))∧Below w.heap.size w W':=by
 go_enter Tryz.func27,Tryz.ntmps27;go_wp2_with fail;refine(uB _).mono ?_;rintro e w1 ⟨rfl,bH⟩;go_wp2_with fail;refine(uC _).mono ?_;rintro e w2 ⟨rfl,bS⟩;have hb:=bH.trans (bS.mono bH.size);clear bH bS;unfold uz uA;go_wp2_with (refine Go.Great.wpList_boxTo rfl 74 (.tmp 3) rfl _ rfl w2.heap.size rfl kC rfl ?_);have hr:=adk w2 (.cells kC 74);obtain⟨W,hW⟩:=ae (w2.alloc (.cells kC 74));have OR:Below w.heap.size w W:=by rw[hW];exact hb.alloc hb.size _
 refine(show W=_ from hW)▸?_;rw[←hW] at hr;go_ret;exact⟨_,rfl,hb.size,hr,OR⟩
def TQ (b:List UInt8):List UInt8:=if dE b then fj (eC (bB b)) else z8 33
def TR (b:List UInt8):Nat:=if dE b then 0 else 1
theorem Eu (k:Nat) (hk:k<2^256):pk ((ba gX gY 1 k 256).1*(bM (ba gX gY 1 k 256).2.2*bM (ba gX gY 1 k 256).2.2)).val ((ba gX gY 1 k 256).2.1*(bM (ba gX gY 1 k 256).2.2*(bM (ba gX gY 1 k 256).2.2*bM (ba gX gY 1 k 256).2.2))).val=fj (eC k):=by
 refine L6 ?_;have h:=l5 fz qd (x:=gX) (y:=gY) (z:=1) ⟨by decide+kernel,by grind,by grind⟩ k 256;rw[og fz qd k hk 256 (by omega)] at h;rw[show k/2^(256-256)=k by simp] at h;exact h
theorem Ps (b:List UInt8) (hl:b.length=32) (w:World):Calls Tryz.prog 26 #[.agg (B8 b).toArray] w fun e W'=>e=.returned (.tuple #[.agg (B8 (TQ b)).toArray,.int .i64 (TR b:Nat)])∧Below w.heap.size w W':=by
 have bx:Tryz.prog.follows .mixedOrders=true:=by kernel_rfl
 have HM:=ab (Mem.start w);have ga:=fun g W (h:FieldAt W g 7 ar dN)=>ov g b hl W h
 have ht:=Eu (bB b) (ads (fV b) (by rw[hl];decide));have dJ:=fun g W (h:FieldAt W g 0 ak dP)=>F2 h
 unfold TQ TR;obtain⟨BX,F6⟩:∃B,B=gX:=⟨_,rfl⟩;obtain⟨BY,F7⟩:∃B,B=gY:=⟨_,rfl⟩;obtain⟨BZ,F8⟩:∃B,B=(1:Fin ak):=⟨_,rfl⟩;simp only[←F6,←F7,←F8] at dJ ht;rw[←ht];obtain⟨K,hK⟩:=ae (dE b);rw[←hK] at ga⊢;obtain⟨k,hk⟩:=ae (bB b);rw[←hk] at ga⊢;have HKey:=ab ga;have HL:=ab hl;have qC:=ab dJ;clear ga ht hK hk hl dJ F6 F7 F8;go_enter Tryz.func26,Tryz.ntmps26;go_wp2_with (first|(show wpList _ _ _ (⟨some 1,_,_,_,_,_⟩::_) _ _;refine ag 0 [(0,5),(1,6),(2,0)] rfl (by kernel_rfl) ?_)|(show ai _ _ _ _ _ _ ((_,5)::_) _;refine bh HM.out rfl rfl _ _ rfl rfl (by kernel_rfl) rfl ?_;intro W gN af;replace HM:=ab af;clear af)|(show ai _ _ _ _ _ _ ((_,6)::_) _;refine aq HM.out rfl rfl rfl (by kernel_rfl) (gw rfl) ?_;intro W gN af;replace HM:=ab af;clear af)|(show ai _ _ _ _ _ _ ((_,0)::_) _;refine aj rfl rfl rfl (by kernel_rfl) _ (.inr rfl) (v:=.int _ _) rfl ?_)|(show ai _ _ _ _ _ _ [] _;refine ay (fun K hK=>?_);simp only[aG];go_simp;refine hK _ ?_;clear hK K));refine(uX _).mono ?_;rintro e w1 ⟨g,rfl,hg,bG,bH⟩;replace HM:=ab (HM.out.add bH hg bG);clear hg bG bH
 cases K
 all_goals
  go_wp2_with (first|(show wpList _ _ _ (⟨some 10,_,_,_,_,_⟩::_) _ _;refine ag 1 [(1,1),(2,4),(3,0),(4,0),(5,0),(6,6),(7,3),(8,0)] rfl (by kernel_rfl) ?_)|(show wpList _ _ _ (⟨some 16,_,_,_,_,_⟩::_) _ _;refine ag 0 [(0,0),(1,3),(2,0)] rfl (by kernel_rfl) ?_)|(show Code.wp _ (Code.region 5 _ _) _ _ _;refine aQ [(0,0),(1,0),(2,1),(3,0),(4,2),(5,2),(6,2)] [] [(7,3),(8,7)] bx (by kernel_rfl) (by intro c a d v w h;cases d<;>exact h) trivial (aH ?_);replace HM:=ab HM.out.drew)|(show ai _ _ _ _ _ _ ((_,0)::_) _;refine aj rfl rfl rfl (by kernel_rfl) _ (.inl rfl) (v:=.pointer _) rfl ?_)|(show ai _ _ _ _ _ _ ((_,0)::_) _;refine aj rfl rfl rfl (by kernel_rfl) _ (.inl rfl) (v:=.tuple _) rfl ?_)|(show ai _ _ _ _ _ _ ((_,0)::_) _;refine aZ rfl rfl rfl (by kernel_rfl) _ _ rfl rfl rfl ?_)|(show ai _ _ _ _ _ _ ((_,0)::_) _;refine aj rfl rfl rfl (by kernel_rfl) _ (.inr rfl) (v:=.bool _) rfl ?_)|(show ai _ _ _ _ _ _ ((_,0)::_) _;refine aj rfl rfl rfl (by kernel_rfl) _ (.inr rfl) (v:=.int _ _) rfl ?_)|(show ai _ _ _ _ _ _ ((_,7)::_) _;refine uK rfl rfl rfl (by kernel_rfl) _ (.inr rfl) rfl ?_)|(show ai _ _ _ _ _ _ ((_,1)::_) _;refine az rfl rfl rfl (by kernel_rfl) 24 _ rfl rfl Tryz.underlying24 rfl (t:=24) (by first|exact HM.out.at_ 2 rfl|exact HM.out.at_ 3 rfl) (dX HL.out) ?_)|(show ai _ _ _ _ _ _ ((_,1)::_) _;refine az rfl rfl rfl (by kernel_rfl) 67 _ rfl rfl Tryz.underlying67 rfl (t:=67) (by first|exact HM.out.at_ 0 rfl ) (a8 _) ?_)|(show ai _ _ _ _ _ _ ((_,6)::_) _;refine aq HM.out rfl rfl rfl (by kernel_rfl) (be rfl) ?_;intro W gN af;replace HM:=ab af;clear af)|(show ai _ _ _ _ _ _ ((_,0)::_) _;refine aM rfl rfl rfl (by kernel_rfl) 28 _ rfl uL rfl ?_)|((first|(show ai _ _ _ _ _ _ ((_,4)::_) _;refine aw (f:=28) HM.out rfl rfl rfl rfl ?_));refine⟨_,_,Tryz.func28,by kernel_rfl,by kernel_rfl,by kernel_rfl,fun W hW=>HKey.out _ _ (bZ ((HM.out.ext hW).at_ 0 rfl)).2,?_⟩;try (intro W af;replace HM:=ab af;clear af))|((first|(show ai _ _ _ _ _ _ ((_,2)::_) _;refine aF (f:=39) rfl rfl rfl ?_) );refine⟨_,_,Tryz.func39,by kernel_rfl,by kernel_rfl,by kernel_rfl,fun W hW=>qC.out _ _ (bZ ((HM.out.ext hW).at_ 1 rfl)).1,?_⟩;try (intro W af;replace HM:=ab af;clear af))|((first|(show ai _ _ _ _ _ _ ((_,2)::_) _;refine aF (f:=37) rfl rfl rfl ?_) );refine⟨_,_,Tryz.func37,by kernel_rfl,by kernel_rfl,by kernel_rfl,fun W hW=>yN (bZ ((HM.out.ext hW).at_ 1 rfl)).1 _ _ _ _,?_⟩;try (intro W af;replace HM:=ab af;clear af))|((first|(show ai _ _ _ _ _ _ ((_,2)::_) _;refine aF (f:=67) rfl rfl rfl ?_) );refine⟨_,_,Tryz.func67,by kernel_rfl,by kernel_rfl,by kernel_rfl,fun W hW=>QR (bZ ((HM.out.ext hW).at_ 1 rfl)).1 _ _ _,?_⟩;try (intro W af;replace HM:=ab af;clear af))|(show ai _ _ _ _ _ _ ((_,3)::_) _;refine an HM.out 67 _ _ rfl rfl ?_;(first|(refine⟨0,_,_,_,_,rfl,rfl,rfl,rfl,rfl,(a8 _),rfl,(aK _),?_⟩));intro W af;simp only[adj,adh,List.set_cons_zero,List.set_cons_succ] at af;replace HM:=ab af;clear af)|(show ai _ _ _ _ _ _ ((_,3)::_) _;refine an HM.out 28 _ _ rfl rfl ?_;(first|(refine⟨2,_,_,_,_,rfl,rfl,rfl,rfl,rfl,(fF (by simp only[fc,z8,List.length_replicate])),(cS (by simp only[fc,z8,List.length_replicate])),(bK _),?_⟩) );intro W af;simp only[adj,adh,List.set_cons_zero,List.set_cons_succ] at af;replace HM:=ab af;clear af)|(show ai _ _ _ _ _ _ [] _;refine bj ?_)|(show cu _ _ _ _ _ _ [] _ _;refine bm HM.out ?_;intro W af;simp only[adj,adh,List.set_cons_zero,List.set_cons_succ] at af;replace HM:=ab af;clear af)|(show ai _ _ _ _ _ _ [] _;refine ay (fun K hK=>?_);simp only[aG];go_simp;refine hK _ ?_;clear hK K))
  trace_state
  refine adm (aA rfl _ _ _ _ _ (0,0) _ rfl (by first|exact HM.out.at_ 2 rfl ) _ rfl Tryz.underlying28 rfl (fF (by simp only[fc,z8,List.length_replicate]))) rfl ⟨rfl,HM.out.hb⟩
end Go.Proofs.YtnlkdheaohocnaaGreatDoor
namespace Go.Proofs.YtnlkdheaohocnaaGreatDoor
open Go Go.RowKit Go.Shelf
theorem Mv {w:World} {g t N:Nat} {cur:Array Value} {bs:List UInt8} (h:w.heap[g]?=some (.cells cur t (0,0))) (hc:cur.toList.take N=B8 bs) (hN:bs.length=N):Sl w w.heap.size (some ⟨g,0,none⟩) (B8 bs):=fun _=>⟨g,0,rfl,(adg.1 h).1,fun j hj=>by
 rw[adn w g _ _ t (0,0) h,Nat.zero_add];have zB:j<N:=by rw[←hN];simpa using hj
 have h2:(cur.toList.take N)[j]?=(B8 bs)[j]?:=by rw[hc]
 rw[List.getElem?_take_of_lt zB,Array.getElem?_toList] at h2;rw[h2,adp hj]⟩
theorem F9 (b o j:Nat):Addr.add ⟨b,o,none⟩ j=⟨b,o+j,none⟩:=by
 unfold Addr.add;split
 · rename_i h;rw[h,Nat.add_zero]
 rfl
theorem Sl.wide {w:World} {B:Nat} {A:Option Addr} {xs:List Value} (h:Sl w B A xs):Sl w w.heap.size A xs:=fun hp=>by
 obtain⟨b,o,e,h1,h2⟩:=h hp;exact⟨b,o,e,World.block_lt_of_cell? w _ (h2 0 hp),h2⟩
theorem Sl.ext {w w':World} {B:Nat} {A:Option Addr} {xs:List Value} (h:Sl w B A xs) (hE:Ext w w'):Sl w' w'.heap.size A xs:=fun hp=>by
 obtain⟨b,o,e,h1,h2⟩:=h hp;have hb:=World.block_lt_of_cell? w _ (h2 0 hp);refine⟨b,o,e,ads hb hE.below.size,fun j hj=>?_⟩;rw[←h2 j hj];exact hE.below.cell hb
theorem wm {α:Type} {L:List α} {k:Nat} {x:α} (h:L[k]?=some x):L.set k x=L:=by
 apply List.ext_getElem?;intro i;rw[List.getElem?_set];split
 · rename_i e
   subst e;rw[if_pos (adE.1 h).1,h]
 rfl
theorem Mem.cells {w0:World} {k g:Nat} {t:TypeId}:∀(vs:List Value) (o:Nat) (w:World) (L:List (Nat×TypeId×Array Value)) (xs:List Value),Mem w0 w L→L[k]?=some (g,t,xs.toArray)→o+vs.length≤xs.length→
 Mem w0 (w.setCells g o vs) (L.set k (g,t,(xs.take o++vs++xs.drop (o+vs.length)).toArray))
 |[],o,w,L,xs,h,e,hl=>by
  rw[List.append_nil,List.length_nil,Nat.add_zero,List.take_append_drop,wm e];exact h
 |v::vs,o,w,L,xs,h,e,hl=>by
  have hlen:o<xs.length:=by simp at hl;omega
  have h1:=h.setD k e o v;have hk:k<L.length:=(adE.1 e).1;have h2:=Mem.cells vs (o+1) _ _ (xs.set o v) h1 (by rw[List.getElem?_set,if_pos rfl,if_pos hk]) (by simp at hl⊢;omega);rw[List.set_set] at h2;rw[show xs.take o++v::vs++xs.drop (o+(v::vs).length)=(xs.set o v).take (o+1)++vs++(xs.set o v).drop (o+1+vs.length) from ?_]
  · exact h2
  rw[List.drop_set_of_lt (by omega),adz,show o+(vs.length+1)=o+1+vs.length by omega,List.take_add_one,List.take_set_of_le (adi _),List.getElem?_set_self hlen];simp
section
variable {ops:Array Oper} {Q:Exit→Act→World→Prop} {w0 w:World} {L:List (Nat×TypeId×Array Value)} {o:Oper} {a:Act} {i d:Nat} {rest:List (Nat×Nat)} {l:List (Nat×Value)}
theorem xI (hM:Mem w0 w L) (ho:ops[i]?=some o) (hg:o.guard.isNone=true) (hd:o.dst=some d) (aV:Nat.blt d a.tmps.size=true) (x y:Operand) (cK:o.op=.call { callee:=.builtin .copy,args:=#[x,y],argTypes:=#[22,22] })
 (h:∃(k g t off dLen dCap sLen sCap B:Nat) (kP:List UInt8) (A:Option Addr) (cs:List UInt8),ev a l x=.slice (some ⟨g,off,none⟩) dLen dCap∧ev a l y=.slice A sLen sCap∧L[k]?=some (g,t,(B8 kP).toArray)∧cs.length=Nat.min sLen dLen∧Sl w B A (B8 cs)∧off+cs.length≤kP.length∧
  ∀W,Mem w0 W (L.set k (g,t,(B8 (kP.take off++cs++kP.drop (off+cs.length))).toArray))→ai Tryz.prog ops (Q .normal) (fun i K a w=>wpOp Tryz.prog ops Q i K a w) a W rest ((d,.int .i64 (cs.length:Int))::l)):
 ai Tryz.prog ops (Q .normal) (fun i K a w=>wpOp Tryz.prog ops Q i K a w) a w ((i,8)::rest) l:=by
 obtain⟨k,g,t,off,dLen,dCap,sLen,sCap,B,kP,A,cs,h1,h2,h3,h4,h5,h6,h8⟩:=h;refine j3 hM ho hg hd aV lC x y cK ⟨k,g,t,off,dLen,dCap,sLen,sCap,B,_,A,B8 cs,h1,h2,h3,by simpa using h4,h5,by simpa using h6,aR _,fun W hW=>?_⟩
 have h9:=h8 W (by
  rw[B8_length] at hW;rw[bp,bp,jg,kU];exact hW)
 rw[B8_length];exact h9
theorem uY (hM:Mem w0 w L) (ty:TypeId) (x y:Operand) (ho:ops[i]?=some o) (cK:o.op=.store ty x y)
 (h:∃(k g t off:Nat) (xs cs:List Value),o.guard=none∧o.dst=none∧ev a l x=.pointer (some ⟨g,off,none⟩)∧L[k]?=some (g,t,xs.toArray)∧ev a l y=.agg cs.toArray∧(Tryz.prog.info? ty).map (·.size)=some cs.toArray.size∧off+cs.length≤xs.length∧cs.toArray.all (·.oneCell')=true∧
  ∀W,Mem w0 W (L.set k (g,t,(xs.take off++cs++xs.drop (off+cs.length)).toArray))→ai Tryz.prog ops (Q .normal) (fun i K a w=>wpOp Tryz.prog ops Q i K a w) a W rest l):
 ai Tryz.prog ops (Q .normal) (fun i K a w=>wpOp Tryz.prog ops Q i K a w) a w ((i,3)::rest) l:=by
 obtain⟨k,g,t,off,xs,cs,h1,h2,h3,h4,h5,h6,h7,h8,h9⟩:=h;refine dt (by decide) ho (by rw[h1];rfl) fun hl=>?_
 refine wp_store_mid ty x y cK g off cs.toArray ((bI hl x).trans h3) ((bI hl y).trans h5) (fun j hj=>?_) h6 h8 ?_
 · have bG:=hM.at_ k h4
   have hj:j<cs.length:=by simpa using hj
   refine⟨?_,frozen_of_row w g _ _ t bG⟩;rw[adn w g _ _ t (0,0) bG,List.getElem?_toArray,adp (by omega)];rfl
 rw[h2];exact(h9 _ (hM.cells cs off w L xs h4 h7)).run hl
theorem BT (hM:Mem w0 w L) (ho:ops[i]?=some o) (hg:o.guard.isNone=true) (hd:o.dst=some d) (aV:Nat.blt d a.tmps.size=true) (x y:Operand) (cK:o.op=.call { callee:=.builtin .append,args:=#[x,y],argTypes:=#[22,22] })
 (h:∃(A B:Option Addr) (n c m c2 B1 B2:Nat) (xs ys:List UInt8),ev a l x=.slice A n c∧ev a l y=.slice B m c2∧xs.length=n∧ys.length=m∧Sl w B1 A (B8 xs)∧Sl w B2 B (B8 ys)∧0<n∧0<m∧c<n+m∧n+m≤100000∧
  ∀W g c' cur,Mem w0 W ((g,5,cur)::L)→n+m≤c'→c'≤maxLen→cur.toList.take (n+m)=B8 (xs++ys)→ai Tryz.prog ops (Q .normal) (fun i K a w=>wpOp Tryz.prog ops Q i K a w) a W rest ((d,.slice (some ⟨g,0,none⟩) (n+m) c')::l)):
 ai Tryz.prog ops (Q .normal) (fun i K a w=>wpOp Tryz.prog ops Q i K a w) a w ((i,9)::rest) l:=by
 obtain⟨A,B,n,c,m,c2,B1,B2,xs,ys,h1,h2,h3,h4,h5,h6,h7,h8,h9,h10,h11⟩:=h;refine dt (by decide) ho hg fun hl=>?_
 obtain⟨b,o1,rfl,bH,bS⟩:=h5 (by simpa [h3] using h7);obtain⟨b',o2,rfl,b5,gg⟩:=h6 (by simpa [h4] using h8);obtain⟨i0,hi,jh,kV,mo⟩:=info_parts lC.info
 obtain⟨v',w',hr,ho',jI⟩:=run_append_arg_grows 22 o.type 5 i0 _ 1 1 (P:=Tryz.prog) (w:=w) Tryz.underlying22 hi jh kV mo rfl (by decide) ⟨b,o1,none⟩ n c (B8 xs) (by simp[h3]) (fun j u hu=>by
  have hj:=(adE.1 hu).1;rw[adp hj] at hu;injection hu with hu;rw[←hu];rw[F9];exact bS j hj) ⟨b',o2,none⟩ m c2 (B8 ys) (by simp[h4]) (fun j u hu=>by
  have hj:=(adE.1 hu).1;rw[adp hj] at hu;injection hu with hu;rw[←hu];rw[F9];exact gg j hj) h9 (by simp[maxLen];omega) (by omega)
 have l0:Below w.heap.size w w':=⟨jI.os,jI.tape,jI.output,jI.size,fun j hj=>jI.block j hj (by simp)⟩;obtain⟨hlen,⟨rfl,Vd⟩|⟨g,cap,cur,rfl,kq,mw,lV,zO,NY,hg6⟩⟩:=ho'
 · omega
 rw[Nat.mul_one] at hg6;have hE:=h11 w' g cap cur (hM.add l0 kq mw) lV zO (by rw[hg6,bp]);unfold Oper.wp execOp;simp only[cK,resolve,invoke,builtin,Sem.run_bind,Sem.run_pure,Result.andThen_ok,List.map_toArray,List.map_cons,List.map_nil,bI hl,h1,h2,hr];show aI Tryz.prog ops _ _ 0 rest ((aG a l).put o.dst _) w';rw[hd];exact hE.run (iK aV hl)
end
end Go.Proofs.YtnlkdheaohocnaaGreatDoor
namespace Go.Proofs.YtnlkdheaohocnaaGreatDoor
open Go Go.RowKit Go.Shelf
theorem mf (g off:Nat) (W:World):(Instr.fieldAt 74 (.pointer (some ⟨g,off,none⟩)) 1).run Tryz.prog W=.ok (.pointer (some ⟨g,off+7,none⟩)) W:=by go_simp
def akS (key by_:List UInt8):Nat:=(bB key+bB by_)%ar
def TS (key by_:List UInt8):Nat:=if ar≤bB by_ then 1 else if akS key by_=0 then 7 else 0
def Q7 (key by_:List UInt8):List UInt8:=if TS key by_=0 then iI (akS key by_) 32 else z8 32
theorem qE {b:List UInt8} (h:dE b=true):bB b<ar∧0<bB b:=by
 simp only[dE,adx,adB] at h;omega
theorem xJ:2^255<ar:=by decide+kernel
theorem Pu (key by_:List UInt8) (hk:key.length=32) (hb:by_.length=32) (ga:dE key=true) (w:World):Calls Tryz.prog 59 #[.agg (B8 key).toArray,.agg (B8 by_).toArray] w fun e W'=>e=.returned (.tuple #[.agg (B8 (Q7 key by_)).toArray,.int .i64 (TS key by_:Nat)])∧Below w.heap.size w W':=by
 have bx:Tryz.prog.follows .mixedOrders=true:=by kernel_rfl
 have HM:=ab (Mem.start w);have Dw:=fun g W (h:FieldAt W g 7 ar dN)=>ov g key hk W h
 rw[ga] at Dw;have ko:=(qE ga).1;have qF:bB by_<2^256:=ads (fV by_) (by rw[hb];decide);have yY:=fun g W (h:FieldAt W g 7 ar dN)=>ky g 7 ar dN (bB by_) qF bU W h
 obtain⟨E,hE⟩:=ae (TS key by_);obtain⟨R,hR⟩:=ae (Q7 key by_);rw[←hE,←hR];rw[Q7,←hE] at hR;rw[TS] at hE;obtain⟨S,hS⟩:=ae (akS key by_);rw[←hS] at hE hR;have yZ:=fun g W (h:FieldAt W g 7 ar dN) (aV:bB by_<ar)=>qe g 7 ar dN (bB key) (bB by_) ko aV bU xJ W h
 rw[show (bB key+bB by_)%ar=S from by rw[hS];rfl] at yZ;have Q8:S<2^256:=by rw[hS];exact Nat.lt_trans (Nat.mod_lt _ (by omega)) bU
 obtain⟨k,hkv⟩:=ae (bB key);rw[←hkv] at Dw yZ;obtain⟨t,VW⟩:=ae (bB by_);have pz:=fun (W:World) (g tt:Nat) (h:W.heap[g]?=some (Obj.cells (B8 by_).toArray tt (0,0)))=>qp hb h
 rw[←VW] at yZ yY hE;simp only[←VW] at pz;obtain⟨b1,bH⟩:∃b,decide (t<ar)=b:=⟨_,rfl⟩;rw[bH] at yY;have hz:=fun W=>iy S Q8 W
 obtain⟨b2,bS⟩:∃b,decide (S=0)=b:=⟨_,rfl⟩;rw[bS] at hz;have J8:=ab Dw;have Pv:=ab yY;have HAdd:=ab yZ;have BU:=ab pz;have HZ:=ab hz;have TT:=ab hk;have HLb:=ab hb;have HE:=ab hE;have HR:=ab hR;have H1:=ab bH;have H2:=ab bS;clear Dw yY yZ pz hz hk hb hE hR bH bS ga ko qF hS Q8 hkv VW;go_enter Tryz.func59,Tryz.ntmps59;go_wp2_with (first|(show wpList _ _ _ (⟨some 2,_,_,_,_,_⟩::_) _ _;refine ag 0 [(0,5),(1,5),(2,6),(3,0)] rfl (by kernel_rfl) ?_)|(show ai _ _ _ _ _ _ ((_,5)::_) _;refine bh HM.out rfl rfl _ _ rfl rfl (by kernel_rfl) rfl ?_;intro W gN af;replace HM:=ab af;clear af)|(show ai _ _ _ _ _ _ ((_,6)::_) _;refine aq HM.out rfl rfl rfl (by kernel_rfl) (fG rfl) ?_;intro W gN af;replace HM:=ab af;clear af)|(show ai _ _ _ _ _ _ ((_,0)::_) _;refine aj rfl rfl rfl (by kernel_rfl) _ (.inr rfl) (v:=.int _ _) rfl ?_)|(show ai _ _ _ _ _ _ [] _;refine ay (fun K hK=>?_);simp only[aG];go_simp;refine hK _ ?_;clear hK K));refine(uX _).mono ?_;rintro e w1 ⟨g,rfl,hg,bG,bH⟩;replace HM:=ab (HM.out.add bH hg bG);clear hg bG bH;go_upto_region 4 with (first|(show wpList _ _ _ (⟨some 14,_,_,_,_,_⟩::_) _ _;refine ag 1 [(1,1),(2,4),(3,0),(4,0),(5,0),(6,6),(7,3),(8,0)] rfl (by kernel_rfl) ?_)|(show wpList _ _ _ (⟨some 18,_,_,_,_,_⟩::_) _ _;refine ag 0 [(0,0),(1,4),(2,6),(3,3)] rfl (by kernel_rfl) ?_)|(show ai _ _ _ _ _ _ ((_,0)::_) _;refine aj rfl rfl rfl (by kernel_rfl) _ (.inl rfl) (v:=.tuple _) rfl ?_)|(show ai _ _ _ _ _ _ ((_,0)::_) _;refine aZ rfl rfl rfl (by kernel_rfl) _ _ rfl rfl rfl ?_)|(show ai _ _ _ _ _ _ ((_,0)::_) _;refine aj rfl rfl rfl (by kernel_rfl) _ (.inr rfl) (v:=.bool _) rfl ?_)|(show ai _ _ _ _ _ _ ((_,1)::_) _;refine az rfl rfl rfl (by kernel_rfl) 24 _ rfl rfl Tryz.underlying24 rfl (t:=24) (by first|exact HM.out.at_ 3 rfl ) (dX (by simp only[TT.out,HLb.out])) ?_)|(show ai _ _ _ _ _ _ ((_,0)::_) _;refine ca rfl rfl rfl (by kernel_rfl) _ _ rfl rfl mb ?_)|(show ai _ _ _ _ _ _ ((_,6)::_) _;refine aq HM.out rfl rfl rfl (by kernel_rfl) (be rfl) ?_;intro W gN af;replace HM:=ab af;clear af)|((first|(show ai _ _ _ _ _ _ ((_,4)::_) _;refine aw (f:=28) HM.out rfl rfl rfl rfl ?_));refine⟨_,_,Tryz.func28,by kernel_rfl,by kernel_rfl,by kernel_rfl,fun W hW=>J8.out _ _ (bZ ((HM.out.ext hW).at_ 0 rfl)).2,?_⟩;try (intro W af;replace HM:=ab af;clear af))|((first|(show ai _ _ _ _ _ _ ((_,4)::_) _;refine aw (f:=30) HM.out rfl rfl rfl rfl ?_));refine⟨_,_,Tryz.func30,by kernel_rfl,by kernel_rfl,by kernel_rfl,fun W hW=>BU.out _ _ _ ((HM.out.ext hW).at_ 3 rfl),?_⟩;try (intro W af;replace HM:=ab af;clear af))|(show ai _ _ _ _ _ _ ((_,3)::_) _;refine an HM.out 67 _ _ rfl rfl ?_;(first|(refine⟨0,_,_,_,_,rfl,rfl,rfl,rfl,rfl,(a8 _),rfl,(aK _),?_⟩));intro W af;simp only[adj,adh,List.set_cons_zero,List.set_cons_succ] at af;replace HM:=ab af;clear af)|(show ai _ _ _ _ _ _ [] _;refine ay (fun K hK=>?_);simp only[aG];go_simp;refine hK _ ?_;clear hK K));refine aE [(0,0),(1,0),(2,0),(3,0),(4,0),(5,0),(6,1),(7,2),(8,0),(9,0)] 10 bx (by kernel_rfl) (by intro c a d v w h;cases d<;>exact h) ?_
 repeat ((first|(refine ao rfl (fun K hK=>?_))|(refine aD rfl (fun K hK=>?_)));go_simp;(first|(refine hK _ ?_) );clear hK K;(try go_bits))
 refine cP rfl (by rfl) 67 (.tmp 9) rfl _ rfl 67 (ax t) (0,0) _ (HM.out.drew.at_ 0 rfl) Tryz.underlying67 rfl (a8 _) ?_;refine gv rfl (by rfl) (fun K hK=>?_);go_wp2_with fail;refine(Pv.out _ _ (bZ (HM.out.drew.at_ 2 rfl)).2).mono ?_;rintro e w5 ⟨rfl,qk⟩;replace HM:=ab (HM.out.drew.below qk);go_wp2_with fail;refine⟨.inr (av qk),?_⟩
 repeat ((first|(refine ao rfl (fun K hK=>?_)) );go_simp;(first|(refine hK _ ?_) );clear hK K;(try go_bits))
 refine aB ?_;clear qk
 have zY:b1=false→E=1∧R=z8 32:=fun h=>by
  have e:E=1:=by rw[HE.out,if_pos (by have:=of_decide_eq_false (H1.out.trans h);omega)]
  exact⟨e,by rw[HR.out,e];rfl⟩
 have tS:b1=true→b2=true→E=7∧R=z8 32:=fun h h2=>by
  have e:E=7:=by rw[HE.out,if_neg (by have:=of_decide_eq_true (H1.out.trans h);omega),if_pos (of_decide_eq_true (H2.out.trans h2))]
  exact⟨e,by rw[HR.out,e];rfl⟩
 have Y6:b1=true→b2=false→E=0∧R=iI S 32:=fun h h2=>by
  have e:E=0:=by rw[HE.out,if_neg (by have:=of_decide_eq_true (H1.out.trans h);omega),if_neg (of_decide_eq_false (H2.out.trans h2))]
  exact⟨e,by rw[HR.out,e];rfl⟩
 have Y9:=ab zY;have N0:=ab tS;have Za:=ab Y6;clear zY tS Y6
 cases b1
 · go_wp2_with (first|(show wpList _ _ _ (⟨some 30,_,_,_,_,_⟩::_) _ _;refine ag 0 [(0,0),(1,3),(2,0)] rfl (by kernel_rfl) ?_)|(show ai _ _ _ _ _ _ ((_,0)::_) _;refine aj rfl rfl rfl (by kernel_rfl) _ (.inr rfl) (v:=.int _ _) rfl ?_)|(show ai _ _ _ _ _ _ ((_,0)::_) _;refine aM rfl rfl rfl (by kernel_rfl) 24 _ rfl BA rfl ?_)|(show ai _ _ _ _ _ _ ((_,3)::_) _;refine an HM.out 24 _ _ rfl rfl ?_;(first|(refine⟨3,_,_,_,_,rfl,rfl,rfl,rfl,rfl,(dX (by decide)),rfl,(bK _),?_⟩));intro W af;simp only[adj,adh,List.set_cons_zero,List.set_cons_succ] at af;replace HM:=ab af;clear af)|(show ai _ _ _ _ _ _ [] _;refine ay (fun K hK=>?_);simp only[aG];go_simp;refine hK _ ?_;clear hK K))
   refine adm (aA rfl _ _ _ _ _ (0,0) _ rfl (HM.out.at_ 3 rfl) _ rfl Tryz.underlying24 rfl (dX (by decide))) rfl ⟨?_,HM.out.hb⟩;rw[(Y9.out (by trivial)).1,(Y9.out (by trivial)).2];rfl
 have VF:=ab (of_decide_eq_true H1.out)
 cases b2
 all_goals
  go_wp2_with (first|(show Code.wp _ (Code.region 6 _ _) _ _ _;refine aQ [(0,0),(1,0),(2,0),(3,1),(4,1),(5,2)] [(6,67,kG)] [(7,3)] bx (by kernel_rfl) (by intro c a d v w h;cases d<;>exact h) ⟨⟨_,rfl,be rfl⟩,trivial⟩ (aH ?_);replace HM:=ab HM.out.drew)|(show wpList _ _ _ (⟨some 37,_,_,_,_,_⟩::_) _ _;refine ag 0 [(0,1),(1,4)] rfl (by kernel_rfl) ?_)|(show wpList _ _ _ (⟨some 39,_,_,_,_,_⟩::_) _ _;refine ag 0 [(0,0),(1,3),(2,0)] rfl (by kernel_rfl) ?_)|(show wpList _ _ _ (⟨some 40,_,_,_,_,_⟩::_) _ _;refine ag 0 [(0,1),(1,4),(2,3),(3,0)] rfl (by kernel_rfl) ?_)|(show ai _ _ _ _ _ _ ((_,0)::_) _;refine aj rfl rfl rfl (by kernel_rfl) _ (.inl rfl) (v:=.pointer _) rfl ?_)|(show ai _ _ _ _ _ _ ((_,0)::_) _;refine fq rfl rfl rfl (by kernel_rfl) _ rfl rfl ?_)|(show ai _ _ _ _ _ _ ((_,0)::_) _;refine bd rfl rfl rfl (by kernel_rfl) 74 _ 1 rfl rfl mf ?_)|(show ai _ _ _ _ _ _ ((_,0)::_) _;refine aj rfl rfl rfl (by kernel_rfl) _ (.inr rfl) (v:=.int _ _) rfl ?_)|(show ai _ _ _ _ _ _ ((_,1)::_) _;refine az rfl rfl rfl (by kernel_rfl) 67 _ rfl rfl Tryz.underlying67 rfl (t:=67) (by first|exact HM.out.at_ 0 rfl|exact HM.out.at_ 1 rfl ) (a8 _) ?_)|(show ai _ _ _ _ _ _ ((_,0)::_) _;refine aM rfl rfl rfl (by kernel_rfl) 24 _ rfl BA rfl ?_)|((first|(show ai _ _ _ _ _ _ ((_,2)::_) _;refine aF (f:=32) rfl rfl rfl ?_) );refine⟨_,_,Tryz.func32,by kernel_rfl,by kernel_rfl,by kernel_rfl,fun W hW=>HAdd.out _ _ (bZ ((HM.out.ext hW).at_ 2 rfl)).2 VF.out,?_⟩;try (intro W af;replace HM:=ab af;clear af))|((first|(show ai _ _ _ _ _ _ ((_,4)::_) _;refine aw (f:=70) HM.out rfl rfl rfl rfl ?_));refine⟨_,_,Tryz.func70,by kernel_rfl,by kernel_rfl,by kernel_rfl,fun W hW=>HZ.out _,?_⟩;try (intro W af;replace HM:=ab af;clear af))|((first|(show ai _ _ _ _ _ _ ((_,4)::_) _;refine aw (f:=78) HM.out rfl rfl rfl rfl ?_));refine⟨_,_,Tryz.func78,by kernel_rfl,by kernel_rfl,by kernel_rfl,fun W hW=>Ee _ _,?_⟩;try (intro W af;replace HM:=ab af;clear af))|(show ai _ _ _ _ _ _ ((_,3)::_) _;refine an HM.out 67 _ _ rfl rfl ?_;(first|(refine⟨0,_,_,_,_,rfl,rfl,rfl,rfl,rfl,(a8 _),rfl,(aK _),?_⟩));intro W af;simp only[adj,adh,List.set_cons_zero,List.set_cons_succ] at af;replace HM:=ab af;clear af)|(show ai _ _ _ _ _ _ ((_,3)::_) _;refine an HM.out 24 _ _ rfl rfl ?_;(first|(refine⟨4,_,_,_,_,rfl,rfl,rfl,rfl,rfl,(dX (by simp only[aN,z8,List.length_replicate])),(cS (by simp only[aN,z8,List.length_replicate])),(bK _),?_⟩));intro W af;simp only[adj,adh,List.set_cons_zero,List.set_cons_succ] at af;replace HM:=ab af;clear af)|(show ai _ _ _ _ _ _ [] _;refine bj ?_)|(show cu _ _ _ _ _ _ (_::_) _ _;refine cL rfl (by kernel_rfl) ?_;intro gN)|(show cu _ _ _ _ _ _ [] _ _;refine bm HM.out ?_;intro W af;simp only[adj,adh,List.set_cons_zero,List.set_cons_succ] at af;replace HM:=ab af;clear af)|(show ai _ _ _ _ _ _ [] _;refine ay (fun K hK=>?_);simp only[aG];go_simp;refine hK _ ?_;clear hK K));refine adm (aA rfl _ _ _ _ _ (0,0) _ rfl (HM.out.at_ 4 rfl) _ rfl Tryz.underlying24 rfl (dX (by simp only[aN,z8,List.length_replicate]))) rfl ⟨?_,HM.out.hb⟩
 · rw[(Za.out (by trivial) (by trivial)).1,(Za.out (by trivial) (by trivial)).2]
   rfl
 rw[(N0.out (by trivial) (by trivial)).1,(N0.out (by trivial) (by trivial)).2];rfl
end Go.Proofs.YtnlkdheaohocnaaGreatDoor
namespace Go.Proofs.YtnlkdheaohocnaaGreatDoor
instance:NeZero ar:=⟨by decide+kernel⟩
def IU (P:Pt ak):Nat:=match P with
 |none=>0
 |some (x,_)=>x.val
def lJ (k:Nat):Nat:=IU (eC k)%ar
def eJ (d e k:Nat):Nat:=pw ar k (ar-2)*((e+lJ k*d%ar)%ar)%ar
def nK (d e k:Nat):Nat:=if eJ d e k≤(ar-eJ d e k)%ar then eJ d e k else (ar-eJ d e k)%ar
def jG (d e k:Nat):Bool:=decide (k≠0)&&(decide (lJ k≠0)&&decide (nK d e k≠0))
def mR (P:Pt ak) (e r s:Nat):Bool:=
 decide (0<r∧r<ar∧0<s∧s<ar)&&(match cZ bM (eC (e*pw ar s (ar-2)%ar)) (fR bM P (r*pw ar s (ar-2)%ar)) with
  |none=>false
  |some (x,_)=>decide (x.val%ar=r))
theorem dV:1<ar:=kx.1
theorem pwN {k:Nat} (h0:0<k) (hk:k<ar):k*pw ar k (ar-2)%ar=1:=by
 rw[mZ dV (by decide+kernel),Nat.mul_mod_mod];exact F4 kx (fun h=>by have:=Nat.le_of_dvd h0 h;omega)
theorem y5 (d e k:Nat):nK d e k<ar:=by
 have h0:0<ar:=Nat.lt_trans (by decide) dV;unfold nK;split
 · exact Nat.mod_lt _ h0
 exact Nat.mod_lt _ h0
theorem B0 {d e k:Nat} (hk:k<ar) (h:jG d e k=true):mR (eC d) e (lJ k) (nK d e k)=true:=by
 have yF:0<ar:=Nat.lt_trans (by decide) dV;simp only[jG,adx,adB] at h;obtain⟨iR,rG,jO⟩:=h;have hr:lJ k<ar:=Nat.mod_lt _ yF;have hs:=y5 d e k;have ko:=pwN (Nat.pos_of_ne_zero iR) hk;have hw:=pwN (Nat.pos_of_ne_zero jO) hs;have hle:eJ d e k<ar:=Nat.mod_lt _ yF
 have hS:eJ d e k=pw ar k (ar-2)*(e+lJ k*d)%ar:=by
  rw[eJ,Nat.mul_mod_mod,Nat.mul_mod,Nat.add_mod_mod,←Nat.mul_mod]
 have hsS:nK d e k=eJ d e k∨(eJ d e k≤ar∧nK d e k=ar-eJ d e k):=by
  unfold nK;split
  · exact .inl rfl
  rename_i hn;right;refine⟨Nat.le_of_lt hle,?_⟩;rcases Nat.eq_zero_or_pos (eJ d e k) with h0|h0
  · rw[h0] at hn;omega
  exact adu (by omega)
 have bN:eC k≠none:=qB (Nat.pos_of_ne_zero iR) hk;have key:=Zd fz L7 ko hS hsS hw;rw[mR,adA ⟨Nat.pos_of_ne_zero rG,hr,Nat.pos_of_ne_zero jO,hs⟩,Bool.true_and]
 have hx:∀Q:Pt ak,(Q=eC k∨Q=nb (eC k))→(match Q with|none=>false|some (x,_)=>decide (x.val%ar=lJ k))=true:=fun Q hQ=>by
  cases hP:eC k with
  |none=>exact absurd hP bN
  |some p=>
   obtain⟨x,y⟩:=p;have e1:lJ k=x.val%ar:=by rw[lJ,hP];rfl
   rw[hP] at hQ;rcases hQ with rfl|rfl
   · exact adA e1.symm
   exact adA e1.symm
 exact hx _ key
theorem Py {d e k:Nat} (hk:k<ar) (h:¬Mx bM nJ ar d e k):jG d e k=true:=by
 have yF:0<ar:=Nat.lt_trans (by decide) dV;have iR:k≠0:=fun h0=>h (.inl (by rw[h0];rfl))
 have bN:eC k≠none:=qB (Nat.pos_of_ne_zero iR) hk
 cases hP:eC k with
 |none=>exact absurd hP bN
 |some p=>
  obtain⟨x,y⟩:=p
  have hxo:J4 (fR bM nJ k)=some x:=by
   show J4 (eC k)=_;rw[hP];rfl
  have h1:¬(x.val%ar=0∨(e+x.val%ar*d)%ar=0):=fun h2=>h (.inr ⟨x,hxo,h2⟩)
  have e1:lJ k=x.val%ar:=by rw[lJ,hP];rfl
  have hS:eJ d e k=pw ar k (ar-2)*(e+lJ k*d)%ar:=by
   rw[eJ,Nat.mul_mod_mod,Nat.mul_mod,Nat.add_mod_mod,←Nat.mul_mod]
  have hle:eJ d e k<ar:=Nat.mod_lt _ yF
  have hnz:eJ d e k≠0:=fun h0=>h1 (.inr (by
   rw[h0] at hS;rcases kx.2 _ _ (Nat.dvd_of_mod_eq_zero hS.symm) with h2|h2
   · have h3:=pwN (Nat.pos_of_ne_zero iR) hk
     have h4:ar∣k*pw ar k (ar-2):=Nat.dvd_trans h2 (Nat.dvd_mul_left _ _);rw[Nat.mod_eq_zero_of_dvd h4] at h3
     cases h3
   rw[←e1];exact Nat.mod_eq_zero_of_dvd h2))
  have IV:nK d e k≠0:=by
   unfold nK;split
   · exact hnz
   rw[adu (by omega)];omega
  simp only[jG,adx,adB];exact⟨iR,fun h0=>h1 (.inl (by rw[←e1];exact h0)),IV⟩
theorem TW {d e:Nat} (h0:0<d) (hd:d<ar) (k0:Nat):∃j,j<16∧jG d e ((k0+j)%ar)=true:=by
 have yF:0<ar:=Nat.lt_trans (by decide) dV;obtain⟨j,hj,hb⟩:=IT fz L7 (by decide+kernel) (by decide+kernel) (d:=d) (e:=e) (fun h=>by have:=Nat.le_of_dvd h0 h;omega) k0;refine⟨j,hj,Py (Nat.mod_lt _ yF) (fun h=>hb ?_)⟩;rcases h with h|⟨x,hx,h⟩
 · left;rwa [Nat.mod_mod] at h
 right;refine⟨x,?_,h⟩;rw[←hx];show J4 (fR bM nJ (k0+j))=J4 (fR bM nJ ((k0+j)%ar));rw[show fR bM nJ ((k0+j)%ar)=fR bM nJ (k0+j) from L7.mod fz (k0+j)]
end Go.Proofs.YtnlkdheaohocnaaGreatDoor
namespace Go.Proofs.YtnlkdheaohocnaaGreatDoor
open Go.RowKit Go.Shelf
def acS (S:List UInt8):Nat:=S.length-(S.dropWhile (·==49)).length
end Go.Proofs.YtnlkdheaohocnaaGreatDoor
namespace Go.Proofs.YtnlkdheaohocnaaGreatDoor
open Go.RowKit Go.Shelf
end Go.Proofs.YtnlkdheaohocnaaGreatDoor
namespace Go.Proofs.YtnlkdheaohocnaaGreatDoor
open Go.RowKit Go.Shelf
section
variable {P:Program} {ops:Array Oper} {Q:Act→World→Prop} {st:Nat→(Act→World→Prop)→Act→World→Prop} {N:Nat}
end
end Go.Proofs.YtnlkdheaohocnaaGreatDoor

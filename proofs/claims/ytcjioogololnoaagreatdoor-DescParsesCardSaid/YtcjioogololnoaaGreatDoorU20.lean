/- Of any text: the program's descriptors and the reference's are read and written alike (DescParses). No condition. -/
import Derived.Test.YtcjioogololnoaaGreatDoorU1
import Derived.Test.YtcjioogololnoaaGreatDoorU16
import Derived.Test.YtcjioogololnoaaGreatDoorU14
import Derived.Test.YtcjioogololnoaaGreatDoorU5
import Derived.Test.YtcjioogololnoaaGreatDoorU9
import Derived.Lib.IndexMore
import Derived.Test.YtcjioogololnoaaGreatDoorU18
import Derived.Test.YtcjioogololnoaaGreatDoorU8
import Derived.Test.YtcjioogololnoaaGreatDoorU19
set_option maxRecDepth 1000000
set_option maxHeartbeats 16000000
set_option linter.unusedVariables false
set_option linter.unusedSimpArgs false
namespace Go.Proofs.YtcjioogololnoaaGreatDoor
open Go.RowKit Go.Shelf
theorem Po (a:Nat) (ha:a<4294967296):bits .andNot .u32 (a:Int) 2147483648=((a%2147483648:Nat):Int):=by
 show IntKind.u32.wrap ((BitVec.ofInt 32 (a:Int) &&& ~~~ (BitVec.ofInt 32 2147483648)).toNat:Int)=_;rw[show ~~~ (BitVec.ofInt 32 2147483648)=0x7fffffff#32 by decide,BitVec.toNat_and,ofInt_u32 a ha,IntKind.wrap_u32'];rw[show (0x7fffffff#32).toNat=2^31-1 by decide,Nat.and_two_pow_sub_one_eq_mod];omega
theorem rW:∀(a b:List Nat),cQ (a++b)=cQ a++cQ b
 |[],_=>rfl
 |n::a,b=>by simp[cQ,rW a b]
def kE (n:Nat):List UInt8:=47::(Lib.decDigits (n%2147483648)++(if 2147483648≤n then [39] else []))
theorem xa (a:List Nat) (n:Nat):cQ (a++[n])=cQ a++kE n:=by rw[rW];simp[cQ,kE]
theorem pe:∀(k u:Nat),u<10^(k+1)→Lib.nDigits u≤k+1
 |0,u,h=>by rw[Lib.nDigits_small (by simpa using h)];exact af2 _
 |k+1,u,h=>by
  by_cases I5:u<10
  · rw[Lib.nDigits_small I5];omega
  rw[Lib.nDigits_big I5];have:=pe k (u/10) (by rw[Nat.div_lt_iff_lt_mul (by omega),←Nat.pow_succ];exact h);omega
theorem K0 (n:Nat) (h:n<4294967296):(kE n).length≤12:=by
 have:(Lib.decDigits (n%2147483648)).length≤10:=by rw[Lib.decDigits_length];exact pe 9 _ (by omega)
 unfold kE;split<;>simp<;>omega
theorem iK:∀(ns:List Nat),(∀n∈ns,n<4294967296)→(cQ ns).length≤12*ns.length
 |[],_=>by simp[cQ]
 |n::ns,h=>by
  have h1:=K0 n (h n (by simp));have h2:=iK ns (fun m hm=>h m (by simp[hm]));have e:cQ (n::ns)=kE n++cQ ns:=by simp[cQ,kE]
  rw[e,agc,agm];omega
theorem K2 (A:Option Addr) (c:Nat) (ns:List Nat) (dV:∀n∈ns,n<4294967296) (hl:ns.length≤300) (w:World) (hs:Sl w w.heap.size A (cL ns)) (hE:Env w):
 Calls Tryz.prog 50 #[.slice A ns.length c] w fun e W'=>e=.returned (.string ⟨(109::cQ ns).toArray⟩)∧Below w.heap.size w W':=by
 obtain⟨m,hm⟩:=ab ns.length;rw[←hm] at hl⊢;have Hm:=aa hm;have fN:=aa dV;have hbig:=iK ns dV;have eR:(cQ ns).length≤3600:=by omega
 have HT8:Hid (∀k,(cQ (ns.take k)).length≤3600):=aa fun k=>by
  have:=iK (ns.take k) (fun n hn=>dV n (List.mem_of_mem_take hn));rw[agj] at this;omega
 clear hm dV hbig eR;go_enter Tryz.func50,Tryz.ntmps50;go_wp2_with fail;have hf:=Lib.fresh_isBuilder 102 5 w;obtain⟨W0,aM⟩:=ab (w.alloc (.cells #[.pointer none,.slice none 0 0] 102))
 rw[←aM] at hf;have bL:Below w.heap.size w W0:=by rw[aM];exact(af5 _ w).alloc (af2 _) _
 refine(show W0=_ from aM)▸?_;clear aM;refine(jA w.heap.size w.heap.size [] 109 W0 hf (by simp) bL.size).mono ?_;rintro e w1 ⟨rfl,fj,aZ⟩;have dy:=bL.trans aZ;clear hf bL aZ;have hEs:Env w1:=hE.below dy;clear hEs;go_wp2_with fail;go_loopw [9] (fun i wr=>∃k:Nat,k≤m∧i=.int .i64 k∧Lib.IsBuilder 102 5 w.heap.size w.heap.size (Lib.byteCells (109::cQ (ns.take k))) wr∧Below w.heap.size w wr) (fun i _=>m-(intOf i).toNat)
 case atStart=>exact⟨0,agu _,rfl,Or.inr fj,dy⟩
 case round=>
  obtain⟨k,hk,rfl,hB,hb⟩:=hrel;have hz:=hb.size
  by_cases aL:k<m
  · have zf:k<ns.length:=by have:=Hm.out;omega
    obtain⟨n,hn⟩:∃n,n=ns[k]:=⟨_,rfl⟩;obtain⟨bA,oA,rfl,jm,db⟩:=hs (by rw[U32_length];have:=Hm.out;omega)
    have aD:wr.cell? ⟨bA,oA+k,none⟩=some (.int .u32 (n:Int)):=by
     rw[hb.cell (p:=⟨bA,oA+k,none⟩) jm,db k (by simpa using zf),AP,hn]
    have abu:n<4294967296:=by rw[hn];exact fN.out _ (agl _)
    have jO:cQ (ns.take (k+1))=cQ (ns.take k)++kE n:=by rw[agh zf,xa,hn]
    obtain⟨r,hr⟩:∃r,r=n%2147483648:=⟨_,rfl⟩;have han:=Po n abu;rw[←hr] at han;have afi:r<2147483648:=by omega
    obtain⟨T,hT⟩:=ab (cQ (ns.take k));rw[←hT] at hB jO;have AB:T.length≤3600:=by rw[hT];exact HT8.out k
    have uQ:(Lib.decDigits r).length≤10:=by rw[Lib.decDigits_length];exact pe 9 _ (by omega)
    have HF:=aa (wY r (by omega));obtain⟨D,hD⟩:=ab (Lib.decDigits r);rw[←hD] at uQ HF;have eg:Hid (kE n=47::(D++(if 2147483648≤n then [39] else []))):=aa (by rw[kE,←hr,hD]);have HEr:=aa (hE.below hb);have oh:=aa jO;clear hn jO hr hT hD db hs;go_wp2_with fail;refine(HF.out wr HEr.out).mono ?_;rintro e w2 ⟨rfl,bt⟩;have jZ:=uJ hB bt;have abv:Below w.heap.size w w2:=hb.trans (bt.mono hz);clear hB hb bt HF;have XR:(⟨D.toArray⟩:ByteArray).size≤10:=by show D.toArray.size≤10;simpa using uQ
    go_wp2_with fail
    have abw:Lib.byteCells (109::T)++Lib.strCells ((⟨#[47]⟩:ByteArray)++⟨D.toArray⟩)=Lib.byteCells (109::(T++47::D)):=by
     rw[Lib.strCells_eq,←Lib.byteCells_append];simp
    have Hws:=aa (uI w.heap.size w.heap.size (Lib.byteCells (109::T)) ((⟨#[47]⟩:ByteArray)++⟨D.toArray⟩) w2 jZ (by
     rw[Lib.byteCells_length,ByteArray.size_append];show _+(1+D.toArray.size)≤_;simp;omega) abv.size)
    rw[abw] at Hws;clear abw jZ XR;refine Hws.out.mono ?_;rintro e w3 ⟨rfl,py,bd⟩;have YS:Below w.heap.size w w3:=abv.trans bd;have yP:=YS.size;clear Hws bd
    by_cases FF:2147483648≤n
    · have Ya:decide ((2147483648:Int)≤(n:Int))=true:=af9 (by omega)
      have cW:109::(T++47::D)++[39]=109::(T++kE n):=by rw[eg.out,if_pos FF];simp
      have RJ:=aa (jA w.heap.size w.heap.size (Lib.byteCells (109::(T++47::D))) 39 w3 (Or.inr py) (by rw[Lib.byteCells_length];simp;omega) yP);rw[show Lib.byteCells (109::(T++47::D))++[Value.int .u8 39]=Lib.byteCells (109::(T++kE n)) by rw[←cW,Lib.byteCells_append];rfl] at RJ;clear cW FF py;go_wp2_with fail;refine RJ.out.mono ?_;rintro e w4 ⟨rfl,hB4,dn⟩;have adE:Below w.heap.size w w4:=YS.trans dn;clear RJ dn;go_wp2_with fail;exact⟨⟨k+1,by omega,rfl,by rw[oh.out];exact Or.inr hB4,adE⟩,by simp[intOf];omega⟩
    have Ya:decide ((2147483648:Int)≤(n:Int))=false:=af8 (by omega);have cW:109::(T++47::D)=109::(T++kE n):=by rw[eg.out,if_neg FF];simp
    rw[cW] at py;clear cW FF;go_wp2_with fail;exact⟨⟨k+1,by omega,rfl,by rw[oh.out];exact Or.inr py,YS⟩,by simp[intOf];omega⟩
  obtain rfl:k=m:=by omega
  have hT:ns.take k=ns:=af7 (by have:=Hm.out;omega);rw[hT] at hB;have Hs:=aa (Tryz.Builder_String_any w.heap.size w.heap.size (109::cQ ns) wr hB hz);clear hT hB aL;go_wp2_with fail;refine Hs.out.mono ?_;rintro e w2 ⟨rfl,bt⟩;go_wp2_with fail;go_ret;exact⟨rfl,hb.trans bt⟩
end Go.Proofs.YtcjioogololnoaaGreatDoor
namespace Go.Proofs.YtcjioogololnoaaGreatDoor
open Go.RowKit
theorem gi (f:Nat) (l:List UInt8):∀z:Nat,bp f (List.replicate z 0++l)=bp f l
 |0=>rfl
 |z+1=>by
  rw[List.replicate_succ,agw];have h:=gi f l z;unfold bp at h⊢;rw[List.foldl_cons];simpa using h
theorem tm (f:Nat) (hf:1≤f) (l:List UInt8) (hl:∀d∈l,d.toNat<f):bp f l<f^l.length:=by
 induction hn:l.length generalizing l with
 |zero=>rw[List.length_eq_zero_iff.1 hn];simp[bp]
 |succ n ih=>
  rcases List.eq_nil_or_concat l with rfl|⟨l',d0,rfl⟩
  · simp at hn
  rw[List.concat_eq_append] at hn hl⊢;rw[ft,Nat.pow_succ];have h1:=ih l' (fun d hd=>hl d (by simp[hd])) (by simpa using hn);have h2:=hl d0 (by simp);have h3:(bp f l'+1)*f≤f^n*f:=Nat.mul_le_mul_right f h1;rw[Nat.add_mul] at h3;omega
theorem oC (t:Nat) (ht:2≤t):∀(k c:Nat),c<t^k→(aU t c c).length≤k
 |0,c,h=>by
  obtain rfl:c=0:=by simpa using h
  simp[aU]
 |k+1,c,h=>by
  by_cases h0:c=0
  · subst h0;simp[aU]
  rw[dx t c ht (by omega),agm];have:=oC t ht k (c/t) (by rw[Nat.div_lt_iff_lt_mul (by omega)];rwa [←Nat.pow_succ]);omega
theorem xd (m:Nat):256^m≤58^(3*((m+1)/2)):=by
 have h1:256^m≤256^(2*((m+1)/2)):=Nat.pow_le_pow_right (by omega) (by omega)
 have h2:256^(2*((m+1)/2))≤58^(3*((m+1)/2)):=by
  rw[Nat.pow_mul,Nat.pow_mul];exact Nat.pow_le_pow_left (by decide) _
 omega
theorem xe:∀b:List UInt8,∃r,b=List.replicate (lz b) 0++r∧∀d,r.head?=some d→d.toNat≠0
 |[]=>⟨[],rfl,by simp⟩
 |x::b=>by
  by_cases hx:x=0
  · obtain⟨r,h1,h2⟩:=xe b
    refine⟨r,?_,h2⟩;simp only[lz,if_pos hx,List.replicate_succ,agw];rw[←h1,hx]
  refine⟨x::b,by simp[lz,hx],?_⟩;intro d hd e;simp at hd;subst hd;exact hx (UInt8.toNat_inj.1 (by simpa using e))
theorem Bh (z:Nat) (r:List UInt8) (h:∀d,r.head?=some d→d.toNat≠0):lz (List.replicate z 0++r)=z:=by
 induction z with
 |zero=>
  match r,h with
  |[],_=>rfl
  |x::r,h=>
   have:=h x rfl;have hx:x≠0:=fun e=>this (by simp[e])
   simp[lz,hx]
 |succ z ih=>simp[List.replicate_succ,lz,ih]
theorem TB (d:UInt8) (hd:d.toNat<58):dR (dK d)=d:=by
 have h:∀k:Fin 58,dR (dK (UInt8.ofNat k.val))=UInt8.ofNat k.val:=by decide
 have:=h ⟨d.toNat,hd⟩;simpa using this
theorem I6 (d:UInt8) (hd:d.toNat<58):dK d∈aB:=by
 have h:∀k:Fin 58,dK (UInt8.ofNat k.val)∈aB:=by decide
 have:=h ⟨d.toNat,hd⟩;simpa using this
theorem TC (c:UInt8) (hc:c∈aB):dK (dR c)=c:=by
 have h:∀c∈aB,dK (dR c)=c:=by decide
 exact h c hc
theorem Pp (c:UInt8) (hc:c∈aB) (h0:(dR c).toNat=0):c=49:=by
 have h:∀c∈aB,(dR c).toNat=0→c=49:=by decide
 exact h c hc h0
theorem TD (d:UInt8) (hd:d.toNat<58) (h:dK d=49):d.toNat=0:=by
 have hh:∀k:Fin 58,dK (UInt8.ofNat k.val)=49→k.val=0:=by decide
 have:=hh ⟨d.toNat,hd⟩ (by simpa using h);exact this
theorem K6 (z:Nat) (r:List UInt8) (h:∀d,r.head?=some d→d≠49):(List.replicate z 49++r).dropWhile (·==49)=r:=by
 induction z with
 |zero=>
  match r,h with
  |[],_=>rfl
  |x::r,h=>
   have:=h x rfl;simp[this]
 |succ z ih=>simp[List.replicate_succ,ih]
theorem Bi (l:List UInt8):∀d∈l,d.toNat<256:=fun d _=>d.toNat_lt
end Go.Proofs.YtcjioogololnoaaGreatDoor
namespace Go.Proofs.YtcjioogololnoaaGreatDoor
def v64 (v:UInt8):BitVec 64:=v.toBitVec.setWidth 64
def aby (c:BitVec 64):BitVec 64:=eA (c>>>35) ((c &&& 0x7ffffffff)<<<5) 5
theorem ud (b c d:BitVec 64):∀n,eA b (c ^^^ d) n=eA b c n ^^^ d
 |0=>rfl
 |n+1=>by
  simp only[eA,ud b c d n];split
  · rw[BitVec.xor_assoc,BitVec.xor_assoc,BitVec.xor_comm d]
  rfl
theorem Bj (c:BitVec 64) (v:UInt8):bF c v=aby c ^^^ v64 v:=ud _ _ _ 5
theorem TE (a:BitVec 64):(a &&& 0x7ffffffff).toNat=a.toNat%2^35:=by
 rw[BitVec.toNat_and,show (0x7ffffffff:BitVec 64).toNat=2^35-1 from rfl,Nat.and_two_pow_sub_one_eq_mod]
theorem xf (b c:BitVec 64) (h:c.toNat<2^40):∀n,(eA b c n).toNat<2^40
 |0=>h
 |n+1=>by
  have ih:=xf b c h n;rw[eA];split
  · rw[BitVec.toNat_xor]
    refine Nat.xor_lt_two_pow ih ?_
    match n with
    |0=>decide
    |1=>decide
    |2=>decide
    |3=>decide
    |4=>decide
    |n+5=>simp[OI]
  exact ih
theorem TF (c:BitVec 64):((c &&& 0x7ffffffff)<<<5).toNat<2^40:=by
 have h:=TE c;rw[BitVec.toNat_shiftLeft,Nat.shiftLeft_eq];refine Nat.lt_of_le_of_lt (Nat.mod_le _ _) ?_;have:c.toNat%2^35<2^35:=Nat.mod_lt _ (by decide);omega
theorem TG (c:BitVec 64):(aby c).toNat<2^40:=xf _ _ (TF c) 5
theorem TH (v:UInt8):(v64 v).toNat=v.toNat:=by
 rw[v64,BitVec.toNat_setWidth,UInt8.toNat_toBitVec,agA (by have:=v.toNat_lt;omega)]
theorem oD (c:BitVec 64) (v:UInt8):(bF c v).toNat<2^40:=by
 rw[Bj,BitVec.toNat_xor];exact Nat.xor_lt_two_pow (TG c) (by rw[TH];have:=v.toNat_lt;omega)
def fz (s:BitVec 64×List UInt8) (c:UInt8):BitVec 64×List UInt8:=
 match s.2 with
 |[g0,g1]=>(bF (bF s.1 (UInt8.ofNat (jW c%32))) (UInt8.ofNat (9*g0.toNat+3*g1.toNat+jW c/32)),[])
 |g=>(bF s.1 (UInt8.ofNat (jW c%32)),g++[UInt8.ofNat (jW c/32)])
def YT:BitVec 64×List UInt8→BitVec 64
 |(v,[g])=>bF v g
 |(v,[g,h])=>bF v (UInt8.ofNat (3*g.toNat+h.toNat))
 |(v,_)=>v
theorem ka (l:List UInt8) (v:UInt8):gL (l++[v])=bF (gL l) v:=by simp[gL]
theorem abz (s:List UInt8):∀v g,(gL (s.foldl iY (v,g)).1,(s.foldl iY (v,g)).2)=s.foldl fz (gL v,g):=by
 induction s with
 |nil=>intro v g;rfl
 |cons c s ih=>
  intro v g;rw[List.foldl_cons,List.foldl_cons]
  have hs:(gL (iY (v,g) c).1,(iY (v,g) c).2)=fz (gL v,g) c:=by
   match g with
   |[]=>simp only[iY,fz,ka]
   |[a]=>simp only[iY,fz,ka]
   |[a,b]=>simp only[iY,fz,ka]
   |a::b::d::r=>simp only[iY,fz,ka]
  rw[←hs,←ih]
theorem Pq (s:List UInt8):gL (wH (eG s))=YT (s.foldl fz (1,[])):=by
 have h:=abz s [] [];rw[show gL []=1 from rfl] at h;rw[←h,eG];generalize s.foldl iY ([],[])=q;obtain⟨v,g⟩:=q
 match g with
 |[]=>rfl
 |[a]=>simp only[wH,YT,ka]
 |[a,b]=>simp only[wH,YT,ka]
 |a::b::c::r=>rfl
def Pr (a:BitVec 64×List UInt8):Prop:=a.1.toNat<2^40∧a.2.length≤2∧∀x∈a.2,x.toNat<3
theorem VR {c:UInt8} (h:jW c<96):(UInt8.ofNat (jW c/32)).toNat<3:=by rw[agp];omega
theorem La {a:BitVec 64×List UInt8} (h:Pr a) {c:UInt8} (hc:jW c<96):Pr (fz a c):=by
 obtain⟨v,g⟩:=a;obtain⟨h1,h2,h3⟩:=h
 match g,h2,h3 with
 |[],_,_=>exact⟨oD _ _,by simp[fz],by simp only[fz,agJ,agE];rintro x rfl;exact VR hc⟩
 |[p],_,h3=>exact⟨oD _ _,by simp[fz],by
  simp only[fz,agw,agJ,List.mem_cons,List.not_mem_nil,or_false];rintro x (rfl|rfl)
  · exact h3 _ (by simp)
  exact VR hc⟩
 |[p,q],_,_=>exact⟨oD _ _,by simp[fz],by simp[fz]⟩
theorem I7 {c:UInt8} (h:c∈kU):jW c<96:=Nat.lt_trans (List.idxOf_lt_length_of_mem h) (by decide)
theorem Ps (s:List UInt8):∀a,Pr a→(∀c∈s,c∈kU)→Pr (s.foldl fz a):=by
 induction s with
 |nil=>intro a h _;exact h
 |cons c s ih=>intro a h hs;exact ih _ (La h (I7 (hs c (by simp)))) (fun x hx=>hs x (by simp[hx]))
theorem TI (s:List UInt8) (c:UInt8) (j:Nat) (h:s[j]?=some c):Lib.occAt s [c] j=true:=by
 obtain⟨hj,he⟩:=agI.1 h;rw[Lib.occAt_iff_take s [c] j (by simp;omega)];rw[List.drop_eq_getElem_cons hj,he];simp
theorem I8 (s:List UInt8) (c:UInt8) (j:Nat) (h:s[j]?≠some c):Lib.occAt s [c] j=false:=by
 cases ho:Lib.occAt s [c] j with
 |false=>rfl
 |true=>exact absurd (Lib.occAt_head rfl ho) h
theorem Pt (B S:List UInt8) (c:UInt8) (h:∀x∈B,x≠c):Lib.cut (B++c::S) [c]=(B,S,true):=by
 have hi:Lib.index (B++c::S) [c]=(B.length:Nat):=Lib.index_first (by simp) (TI _ _ _ (by simp)) (fun j hj=>I8 _ _ _ (by
  rw[agK hj,age hj];exact fun e=>h B[j] (agl _) (Option.some.inj e)))
 rw[Lib.cut,hi,if_pos (by omega)];simp
theorem DE (B:List UInt8) (c:UInt8) (h:∀x∈B,x≠c):Lib.cut B [c]=(B,[],false):=by
 have hi:Lib.index B [c]=-1:=Lib.index_none (fun j _=>I8 _ _ _ (fun e=>by
  obtain⟨hj,he⟩:=agI.1 e;exact h B[j] (agl _) he))
 rw[Lib.cut,hi,if_neg (by decide)]
end Go.Proofs.YtcjioogololnoaaGreatDoor
namespace Go.Proofs.YtcjioogololnoaaGreatDoor
open Go
def I9 (c:UInt8):Bool:=decide (c∈kU)&&decide (c≠35)
def AllD (l:List UInt8):Prop:=∀c∈l,I9 c=true
theorem AllD.nil:AllD []:=fun c h=>by cases h
theorem AllD.cons {c:UInt8} {l:List UInt8} (h:I9 c=true) (hl:AllD l):AllD (c::l):=fun x hx=>by
 rcases List.mem_cons.1 hx with rfl|hx
 · exact h
 exact hl x hx
theorem AllD.append {a b:List UInt8} (ha:AllD a) (hb:AllD b):AllD (a++b):=fun x hx=>by
 rcases List.mem_append.1 hx with hx|hx
 · exact ha x hx
 exact hb x hx
theorem oE {c:UInt8} (h:I9 c=true):c∈kU∧c≠35:=by simpa [I9] using h
theorem Lb {c:UInt8} (h:48≤c.toNat∧c.toNat≤57):I9 c=true:=by
 have:∀n:Fin 256,48≤n.val→n.val≤57→I9 (UInt8.ofNat n.val)=true:=by decide+kernel
 simpa using this ⟨c.toNat,c.toNat_lt⟩ h.1 h.2
theorem mn (u:Nat):∀c∈Lib.decDigits u,48≤c.toNat∧c.toNat≤57:=by
 induction u using Nat.strongRecOn with
 |_ u ih=>
  intro c hc;rw[Lib.decDigits] at hc;split at hc
  · rw[agE] at hc
    subst hc;rw[agp];omega
  rw[List.mem_append,agE] at hc;rcases hc with hc|rfl
  · exact ih _ (by omega) c hc
  rw[agp];omega
theorem Ja (u:Nat):AllD (Lib.decDigits u):=fun c hc=>Lb (mn u c hc)
theorem Pu (n:Nat):AllD (Lib.itoa n):=by
 rw[Lib.itoa,if_neg (by omega)];exact Ja _
theorem xg (n:Nat) (h:n≤99):(Lib.itoa n).length≤2:=by
 rw[Lib.itoa,if_neg (by omega),Lib.decDigits_length];exact pe 1 _ (by rw[Int.toNat_natCast];omega)
theorem Pv:∀n:Fin 256,(I9 (fG (n.val/16))&&I9 (fG (n.val%16)))=true:=by decide+kernel
theorem DF:∀b:List UInt8,AllD (eF b)
 |[]=>AllD.nil
 |c::b=>by
  have h:=Pv ⟨c.toNat,c.toNat_lt⟩;rw[agz] at h;exact AllD.cons h.1 (AllD.cons h.2 (DF b))
theorem zr:∀ns:List Nat,AllD (cQ ns)
 |[]=>AllD.nil
 |n::ns=>by
  rw[cQ];refine AllD.cons (by decide) (AllD.append (Ja _) (AllD.append ?_ (zr ns)));split
  · exact AllD.cons (by decide) AllD.nil
  exact AllD.nil
theorem DG (b:List UInt8):2*(fK b).length≤3*b.length+3∧∀c∈fK b,c∈aB:=by
 obtain⟨r,h1,h2⟩:=xe b;obtain⟨z,hz⟩:=ab (lz b);rw[←hz] at h1;obtain⟨V,hV⟩:=ab (bp 256 r);have hVb:bp 256 b=V:=by rw[h1,gi,hV]
 have mE:z+r.length=b.length:=by rw[h1];simp
 have hD:dc 256 58 b=aU 58 V V:=by rw[eP 256 58 (by omega) (by omega) (by omega),hVb]
 obtain⟨D,TJ⟩:=ab (aU 58 V V);have Pw:∀d∈D,d.toNat<58:=by rw[TJ];exact lL 58 (by omega) (by omega) V
 have hlen:D.length≤3*((r.length+1)/2):=by
  rw[TJ];exact oC 58 (by omega) _ _ (agq (by rw[hV];exact tm 256 (by omega) r (Bi r)) (xd _))
 have hs:fK b=List.replicate z 49++D.reverse.map dK:=by rw[fK,←hz,hD,TJ]
 have pP:(fK b).length=z+D.length:=by rw[hs];simp
 refine⟨by omega,?_⟩;intro c hc;rw[hs,List.mem_append] at hc;rcases hc with hc|hc
 · rw[(List.mem_replicate.1 hc).2];decide
 obtain⟨d,hd,rfl⟩:=List.mem_map.1 hc;exact I6 d (Pw d (List.mem_reverse.1 hd))
theorem Bk:∀c∈aB,I9 c=true:=by decide+kernel
theorem tn {k:HKey} (h:k.Ok):(eO k).length≤124∧AllD (eO k):=by
 have hf:=DG (checked (fV k));rw[cA,pY h] at hf;exact⟨by rw[eO];omega,fun c hc=>Bk c (hf.2 c hc)⟩
theorem rX (c:UInt8) (hc:I9 c=true):∀l:List (List UInt8),(∀x∈l,AllD x)→AllD (Lib.joinTail [c] l)
 |[],_=>AllD.nil
 |x::l,h=>by
  rw[Lib.joinTail,List.map_cons,List.flatten_cons];exact AllD.append (AllD.cons hc (h x (by simp))) (rX c hc l (fun y hy=>h y (by simp[hy])))
theorem Px (c:UInt8) (hc:I9 c=true) (l:List (List UInt8)) (h:∀x∈l,AllD x):AllD (Lib.join l [c]):=by
 cases l with
 |nil=>exact AllD.nil
 |cons x l=>
  rw[Lib.join_cons];exact AllD.append (h x (by simp)) (rX c hc l (fun y hy=>h y (by simp[hy])))
theorem Jb (b:Nat):∀l:List (List UInt8),(∀x∈l,x.length≤b)→Lib.lens l≤b*l.length
 |[],_=>by simp[Lib.lens]
 |x::l,h=>by
  have h1:=Jb b l (fun y hy=>h y (by simp[hy]));have h2:=h x (by simp);have e:Lib.lens (x::l)=x.length+Lib.lens l:=by simp[Lib.lens]
  rw[e,agm,Nat.mul_succ];omega
theorem Bl (c:UInt8) (b:Nat) (l:List (List UInt8)) (h:∀x∈l,x.length≤b):(Lib.join l [c]).length≤(b+1)*l.length:=by
 by_cases h0:l=[]
 · subst h0;simp[Lib.join_nil]
 have h1:=rR c l h0;have h2:=Jb b l h;rw[Nat.add_mul];omega
structure DKey.Fit (k:DKey):Prop where
 top:k.top.Ok
 plain:k.plain.length≤33
 steps:k.steps.length≤20
 small:∀n∈k.steps,n<4294967296
structure DDesc.Fit (d:DDesc):Prop where
 wraps:d.wraps.length≤3
 words:∀x∈d.wraps,x∈[ik,cf,eD,ca]
 m:d.m≤16
 num:d.keys.length≤16
 keys:∀k∈d.keys,k.Fit
theorem mq {k:DKey} (h:k.Fit):(di k).length≤400∧AllD (di k):=by
 have h1:=tn h.top;have h2:=iK k.steps h.small;have h3:=h.steps;have h4:=h.plain;unfold di;split
 · rw[jL]
   exact⟨by omega,DF _⟩
 refine⟨?_,AllD.append h1.2 (AllD.append (zr _) ?_)⟩
 · split
   · simp;omega
   split
   · simp;omega
   simp;omega
 split
 · exact AllD.cons (by decide) (AllD.cons (by decide) (AllD.cons (by decide) AllD.nil))
 split
 · exact AllD.cons (by decide) (AllD.cons (by decide) AllD.nil)
 exact AllD.nil
theorem pf {d:DDesc} (h:d.Fit):(Lib.join (d.keys.map di) [44]).length≤6416∧AllD (Lib.join (d.keys.map di) [44]):=by
 have h1:=Bl 44 400 (d.keys.map di) (fun x hx=>by
  obtain⟨k,hk,rfl⟩:=List.mem_map.1 hx;exact(mq (h.keys k hk)).1)
 rw[List.length_map] at h1;have h2:=h.num;refine⟨by omega,Px 44 (by decide) _ (fun x hx=>?_)⟩;obtain⟨k,hk,rfl⟩:=List.mem_map.1 hx;exact(mq (h.keys k hk)).2
theorem pg (s:Bool):(jn s).length≤11∧AllD (jn s):=by
 cases s
 · exact⟨by decide,show∀c∈fW,I9 c=true by decide⟩
 exact⟨by decide,show∀c∈ec,I9 c=true by decide⟩
theorem FO {d:DDesc} (h:d.Fit):(dQ d).length≤6500∧AllD (dQ d):=by
 have h1:=pf h;have h2:=pg d.sorted;have h3:=xg d.m (by have:=h.m;omega);unfold dQ;simp only[];split
 · refine⟨by simp only[agc,agm,List.length_nil];omega,AllD.append h2.2 (AllD.cons (by decide) (AllD.append (Pu _) (AllD.cons (by decide) (AllD.append h1.2 (AllD.cons (by decide) AllD.nil)))))⟩
 exact⟨by omega,h1.2⟩
theorem rZ:∀x∈[ik,cf,eD,ca],x.length≤4∧∀c∈x,I9 c=true:=by decide+kernel
theorem zt:∀(ws:List (List UInt8)) (s:List UInt8),(∀x∈ws,x∈[ik,cf,eD,ca])→AllD s→(mg ws s).length≤s.length+6*ws.length∧AllD (mg ws s)
 |[],s,_,h=>⟨by simp[mg],h⟩
 |w::ws,s,hw,h=>by
  have ih:=zt ws s (fun x hx=>hw x (by simp[hx])) h;have h1:=rZ w (hw w (by simp));rw[mg];refine⟨by simp only[agc,agm,List.length_nil];omega,AllD.append h1.2 (AllD.cons (by decide) (AllD.append ih.2 (AllD.cons (by decide) AllD.nil)))⟩
theorem mr {d:DDesc} (h:d.Fit):(fh d).length≤6600∧AllD (fh d):=by
 have h1:=FO h;have h2:=zt d.wraps (dQ d) h.words h1.2;have h3:=h.wraps;exact⟨by rw[fh];omega,h2.2⟩
theorem ue:∀(ps:List (List UInt8)) (ns:List Nat),bf ps=some ns→ns.length=ps.length∧∀n∈ns,n<4294967296
 |[],ns,h=>by
  obtain rfl:[]=ns:=by simpa [bf] using h
  exact⟨rfl,fun n hn=>by cases hn⟩
 |p::ps,ns,h=>by
  rw[bf] at h;split at h
  · cases hr:bf ps with
    |none=>rw[hr] at h;simp at h
    |some v=>
     rw[hr] at h;obtain rfl:(a8 p).2::v=ns:=by simpa using h
     have ih:=ue ps v hr;refine⟨by simp[ih.1],fun n hn=>?_⟩;rcases List.mem_cons.1 hn with rfl|hn
     · exact vE p
     exact ih.2 n hn
  simp at h
theorem FP (priv:Bool) (ps:List (List UInt8)) (ns:List Nat) (r h:Bool) (ht:bS priv ps=some (ns,r,h)):ns.length≤20∧∀n∈ns,n<4294967296:=by
 unfold bS at ht;split at ht
 · cases ht
 next r' h' hl=>
 simp only[] at ht;obtain⟨qs,Yv⟩:∃qs,qs=(if r'=true then ps.dropLast else ps):=⟨_,rfl⟩;rw[←Yv] at ht;split at ht
 · cases ht
 next VD=>
 cases cW:bf qs with
 |none=>rw[cW] at ht;cases ht
 |some v=>
  rw[cW] at ht;simp only[] at ht;split at ht
  · cases ht
  injection ht with ht;injection ht with h1 h2;subst h1;have:=ue qs v cW;exact⟨by omega,this.2⟩
theorem tq {s:List UInt8} {k:DKey} (h:ij s=some k):k.Fit:=by
 unfold ij at h;simp only[] at h;split at h
 · split at h
   · cases ht:bS (cM (Lib.cut s [47]).1).2.priv (aK 47 (Lib.cut s [47]).2.1) with
     |none=>rw[ht] at h;cases h
     |some t=>
      rw[ht] at h;simp only[Option.map_some,Option.some.injEq] at h;subst h;obtain⟨ns,r,hd⟩:=t;have hf:=FP _ _ _ _ _ ht;exact⟨ju _,by simp,hf.1,hf.2⟩
   simp only[Option.some.injEq] at h;subst h;exact⟨ju _,by simp,by simp,fun n hn=>by cases hn⟩
 cases h
theorem zu {s:List UInt8} {k:DKey} (h:aR s=some k):k.Fit:=by
 unfold aR at h;split at h
 · next KJ=>
   split at h
   · next b hb=>
     split at h
     · simp only[Option.some.injEq] at h
       subst h;have:=iH _ _ hb;exact⟨cI,by show b.length≤33;omega,by simp,fun n hn=>by cases hn⟩
     cases h
   exact tq h
 exact tq h
theorem qE:∀(l:List (List UInt8)) (ks:List DKey),bJ l=some ks→ks.length=l.length∧∀k∈ks,k.Fit
 |[],ks,h=>by
  obtain rfl:[]=ks:=by simpa [bJ] using h
  exact⟨rfl,fun n hn=>by cases hn⟩
 |p::ps,ks,h=>by
  rw[bJ] at h
  cases hk:aR p with
  |none=>rw[hk] at h;cases h
  |some k=>
   rw[hk] at h;simp only[] at h
   cases hr:bJ ps with
   |none=>rw[hr] at h;cases h
   |some v=>
    rw[hr] at h;obtain rfl:k::v=ks:=by simpa using h
    have ih:=qE ps v hr;refine⟨by simp[ih.1],fun n hn=>?_⟩;rcases List.mem_cons.1 hn with rfl|hn
    · exact zu hk
    exact ih.2 n hn
theorem zv {ws:List (List UInt8)} {s:Bool} {t:List UInt8} {d:DDesc} (hw:ws.length≤2) (hx:∀x∈ws,x∈[ik,cf,eD,ca]) (h:iI ws s t=some d):d.Fit:=by
 unfold iI at h;split at h
 · cases h
 next p ps _=>
 split at h
 · next h16=>
   split at h
   · cases h
   next n _=>
   split at h
   · next hn=>
     cases hk:bJ ps with
     |none=>rw[hk] at h;cases h
     |some ks=>
      rw[hk] at h;simp only[Option.map_some,Option.some.injEq] at h;subst h;have hf:=qE _ _ hk;exact⟨by show ws.length≤3;omega,hx,by show n≤16;omega,by show ks.length≤16;omega,hf.2⟩
   cases h
 cases h
theorem DH {ws:List (List UInt8)} {wd t:List UInt8} {d:DDesc} (hw:ws.length≤2) (hx:∀x∈ws,x∈[ik,cf,eD,ca]) (FQ:wd∈[ik,cf,eD,ca]) (h:(aR t).map (fun k=>(⟨ws++[wd],0,false,[k]⟩:DDesc))=some d):d.Fit:=by
 cases hk:aR t with
 |none=>rw[hk] at h;cases h
 |some k=>
  rw[hk] at h;simp only[Option.map_some,Option.some.injEq] at h;subst h;refine⟨by simp;omega,fun x hm=>?_,by simp,by simp,fun k' M4=>?_⟩
  · rcases List.mem_append.1 hm with hm|hm
    · exact hx x hm
    rw[agE] at hm;subst hm;exact FQ
  rw[agE] at M4;subst M4;exact zu hk
theorem mX {ws:List (List UInt8)} {W:Bool} {t:List UInt8} {d:DDesc} (hw:ws.length≤2) (hx:∀x∈ws,x∈[ik,cf,eD,ca]) (h:b5 ws W t=some d):d.Fit:=by
 unfold b5 at h;split at h
 · split at h
   · exact DH hw hx (by simp) h
   cases h
 split at h
 · split at h
   · exact DH hw hx (by simp) h
   cases h
 split at h
 · exact zv hw hx h
 split at h
 · exact zv hw hx h
 cases h
theorem Lc {s:List UInt8} {d:DDesc} (h:aQ s=some d):d.Fit:=by
 unfold aQ at h;split at h
 · split at h
   · exact mX (by simp) (by simp) h
   exact mX (by simp) (by simp) h
 split at h
 · exact mX (by simp) (by simp) h
 exact mX (by simp) (by simp) h
theorem xh {s:List UInt8} {n:Nat} {d:DDesc} (h:bU s=(n,some d)):d.Fit:=by
 unfold bU at h;simp only[] at h;split at h
 · cases h
 split at h
 · split at h
   · cases h
   split at h
   · cases h
   next d' hd=>
   injection h with h1 h2;injection h2 with h2;subst h2;exact Lc hd
 cases h
end Go.Proofs.YtcjioogololnoaaGreatDoor
namespace Go.Proofs.YtcjioogololnoaaGreatDoor
open Go Go.RowKit Go.Shelf
theorem cU (a b:List UInt8):(⟨a.toArray⟩:ByteArray)++⟨b.toArray⟩=⟨(a++b).toArray⟩:=by
 apply ByteArray.ext;rw[ByteArray.data_append];simp
theorem aA (a:List UInt8):(⟨a.toArray⟩:ByteArray).size=a.length:=by show a.toArray.size=_;simp
theorem YU (l:List UInt8) (w:World):
 Calls Tryz.prog 49 #[.string ⟨(109::l).toArray⟩,.string ⟨#[109]⟩] w fun e w'=>e=.returned (.string ⟨l.toArray⟩)∧w'=w:=by
 refine(Tryz.strings_TrimPrefix ⟨(109::l).toArray⟩ ⟨#[109]⟩ w).mono ?_
 rintro e w' ⟨rfl,rfl⟩;refine⟨?_,rfl⟩;show Ending.returned (.string ⟨(Lib.trimPrefix (109::l) [109]).toArray⟩)=_;have:Lib.trimPrefix (109::l) [109]=l:=by simp[Lib.trimPrefix,Lib.hasPrefix]
 rw[this]
theorem DI (k:DKey) (hk:k.Fit) (pv sv:Value) (lo:Nat) (w:World) (gF:KV w lo k pv sv) (hE:Env w):
 Calls Tryz.prog 21 #[.agg (eS k pv sv).toArray] w fun e W'=>e=.returned (.string ⟨(di k).toArray⟩)∧Below w.heap.size w W':=by
 have bW:Tryz.prog.follows .mixedOrders=true:=by kernel_rfl
 obtain⟨cs,bB⟩:∃cs,cs=(eS k pv sv).toArray:=⟨_,rfl⟩;have dX:cs.size=75:=by rw[bB];simp[aT hk.top]
 have aF:=af4 w (.cells cs 62);obtain⟨W0,aM⟩:=ab (w.alloc (.cells cs 62));rw[←aM] at aF;have bL:Below w.heap.size w W0:=by rw[aM];exact(af5 _ w).alloc (af2 _) _
 have iC:W0.heap.size=w.heap.size+1:=by rw[aM];simp
 have gH:=mq hk;have YV:=gF.below bL;obtain⟨B,hB⟩:=ab w.heap.size;rw[←bB];rw[bB] at aF;rw[←hB] at aF iC;have R0:=mh hk.top aF;have r0:W0.cell? ⟨B,0,none⟩=some pv:=by rw[gQ aF];rfl
 have YW:W0.cell? ⟨B,72,none⟩=some sv:=by rw[gQ aF];exact ot hk.top pv sv
 have VS:W0.cell? ⟨B,73,none⟩=some (.bool k.ranged):=by rw[gQ aF];exact mS hk.top pv sv
 have VT:W0.cell? ⟨B,74,none⟩=some (.bool k.hard):=by rw[gQ aF];exact kD hk.top pv sv
 obtain⟨⟨A,c,rfl,VU,uA,_⟩,A',c',rfl,CF,_⟩:=YV;have HB:=aa hB;have gJ:=aa aM;have HE0:=aa (hE.below bL);have dh:=aa bL;have eC:=aa aF;have oX:=aa bB
 by_cases hp:k.plain=[]
 · have hT:di k=eO k.top++(cQ k.steps++(if k.hard then [47,42,39] else if k.ranged then [47,42] else [])):=by rw[di,if_neg (by simp[hp])]
   have YX:=uA hp;rw[aV] at YX;obtain⟨t1,qT⟩:∃t1:ByteArray,t1=⟨(eO k.top).toArray⟩:=⟨_,rfl⟩;obtain⟨t2,mF⟩:∃t2:ByteArray,t2=⟨(109::cQ k.steps).toArray⟩:=⟨_,rfl⟩;obtain⟨t3,MK⟩:∃t3:ByteArray,t3=⟨(cQ k.steps).toArray⟩:=⟨_,rfl⟩;have jY:t1.size≤124:=by rw[qT,aA];exact(tn hk.top).1
   have hs3:t3.size≤240:=by rw[MK,aA];have:=iK k.steps hk.small;have:=hk.steps;omega
   have HX:=aa (KG k.top hk.top);rw[←qT] at HX
   have HP:Hid (∀W1,Below W0.heap.size W0 W1→Calls Tryz.prog 50 #[.slice A' k.steps.length c'] W1 fun e W'=>e=.returned (.string t2)∧Below W1.heap.size W1 W'):=aa (fun W1 aZ=>by
    rw[mF];exact K2 A' c' k.steps hk.small (by have:=hk.steps;omega) W1 ((CF.below aZ).mono aZ.size) (HE0.out.below aZ))
   have HTr:Hid (∀W1,Calls Tryz.prog 49 #[.string t2,.string ⟨#[109]⟩] W1 fun e w'=>e=.returned (.string t3)∧w'=W1):=aa (fun W1=>by rw[mF,MK];exact YU _ W1)
   obtain⟨n2,Cr⟩:=ab k.steps.length;rw[←Cr] at YW HP;obtain⟨bh,RL⟩:=ab k.hard;obtain⟨br,TK⟩:=ab k.ranged;rw[←RL] at VT hT;rw[←TK] at VS hT;have HT:Hid ((⟨(di k).toArray⟩:ByteArray)=(t1++t3)++⟨(if bh then [47,42,39] else if br then [47,42] else []:List UInt8).toArray⟩):=aa (by rw[qT,MK,cU,cU,hT,agL]);have IK:=aa (show (Tryz.prog.info? 59).map (·.size)=some (ba k.top).length by rw[aI hk.top];kernel_rfl);have jk:Hid (∀W1,Below W0.heap.size W0 W1→W1.cell? ⟨B,73,none⟩=some (.bool br)∧W1.cell? ⟨B,74,none⟩=some (.bool bh)):=aa (fun W1 aZ=>⟨et VS aZ,et VT aZ⟩);obtain⟨KT,Py⟩:∃KT:ByteArray,KT=⟨(di k).toArray⟩:=⟨_,rfl⟩;rw[←Py] at HT⊢;obtain⟨kc,mG⟩:=ab (ba k.top);rw[←mG] at R0 IK HX;have Tj:=aa R0;have iu:cs[0]?=some (.slice none 0 0):=by rw[bB,agr,eS,YX];rfl
   clear hT YX qT mF MK Cr RL TK Py mG R0 VU CF uA hp bL iC aF aM dX bB hB gH gF;go_enter Tryz.func21,Tryz.ntmps21;go_wp2_with fail;refine(show W0=_ from gJ.out)▸?_;rw[←HB.out];refine an [(0,0),(1,1),(3,0),(4,1),(2,2),(5,2),(6,2),(7,0),(8,0)] 9 bW (by kernel_rfl) (by intro c a d v w h;cases d<;>exact h) ?_
   repeat ((first|refine ag rfl fun K hK=>?_|refine af rfl fun K hK=>?_);go_simp;(first|refine hK _ ?_|(simp only[IntWalk.iteOmega];go_simp;refine hK _ ?_)|(go_bits;go_simp;refine hK _ ?_));clear hK K;try go_bits)
   refine eI rfl rfl 59 (.tmp 10) rfl B 1 rfl kc _ Tj.out Tryz.underlying59 rfl IK.out ?_;refine(show ay _ _ _ _ _ _ (Act.put _ (some 11) _) _ from ?_)
   conv in (Act.put _ (some 11) _)=>simp[Act.put]
   repeat ((first|refine ag rfl fun K hK=>?_|refine af rfl fun K hK=>?_);go_simp;(first|refine hK _ ?_|(simp only[IntWalk.iteOmega];go_simp;refine hK _ ?_)|(go_bits;go_simp;refine hK _ ?_));clear hK K;try go_bits)
   refine ae rfl rfl (fun K hK=>?_);go_wp2_with fail;refine(HX.out W0.drew).mono ?_;rintro e w1 ⟨rfl,aZ⟩;have fj:Below W0.heap.size W0 w1:=(af5 _ W0).drew.trans aZ;have nH:=aa fj;have HX1:=aa (aj aZ);clear aZ fj HX;go_wp2_with fail;refine⟨.inr HX1.out,?_⟩;refine ae rfl rfl (fun K hK=>?_);go_wp2_with fail;refine(HP.out w1 nH.out).mono ?_;rintro e w2 ⟨rfl,bt⟩;have FR:=aa (nH.out.trans (bt.mono nH.out.size));have HX2:=aa (aj bt);clear bt HP;go_wp2_with fail;refine⟨.inr HX2.out,?_⟩;refine ae rfl rfl (fun K hK=>?_);go_wp2_with fail;refine(HTr.out w2).mono ?_;rintro e w3 ⟨rfl,bD⟩;rw[bD];clear bD HTr;go_wp2_with fail;refine⟨.inr (Ext.refl _),?_⟩
   repeat ((first|refine ag rfl fun K hK=>?_|refine af rfl fun K hK=>?_);go_simp;(first|refine hK _ ?_|(simp only[IntWalk.iteOmega];go_simp;refine hK _ ?_)|(go_bits;go_simp;refine hK _ ?_));clear hK K;try go_bits)
   refine ak ?_;have ez:=jk.out w2 FR.out;obtain⟨q73,q74⟩:=ez;have YY:=aa (dh.out.trans (FR.out.mono dh.out.size))
   cases bh with
   |true=>
    go_wp2_with fail;go_ret;exact⟨by rw[HT.out];rfl,YY.out⟩
   |false=>
    cases br with
    |true=>
     go_wp2_with fail;go_ret;exact⟨by rw[HT.out];rfl,YY.out⟩
    |false=>
     have Pz:KT=t1++t3:=by
      rw[HT.out];apply ByteArray.ext;simp
     have YZ:=aa Pz;clear Pz;go_wp2_with fail;go_ret;exact⟨by rw[YZ.out];rfl,YY.out⟩
 have hT:di k=eF k.plain:=by rw[di,if_pos hp]
 obtain⟨b,o,hA,mE,db⟩:=VU (by rw[B8_length];exact List.length_pos_iff.2 hp);subst hA;have HX:=aa (IQ (some ⟨b,o,none⟩) c k.plain W0 (VU) (by have:=hk.plain;omega));rw[←hT] at HX;obtain⟨n1,zW⟩:=ab k.plain.length;rw[←zW] at HX;have iu:cs[0]?=some (.slice (some ⟨b,o,none⟩) n1 c):=by rw[bB,agr,eS,zW];rfl
 obtain⟨KT,Py⟩:=ab (di k);rw[←Py] at HX⊢;clear hT zW Py db mE VU CF uA hp bL iC aF aM dX bB hB gH gF R0 r0 YW VS VT;go_enter Tryz.func21,Tryz.ntmps21;go_wp2_with fail;refine(show W0=_ from gJ.out)▸?_;refine HX.out.mono ?_;rintro e w1 ⟨rfl,aZ⟩;have nH:=aa (dh.out.trans (aZ.mono dh.out.size));clear aZ HX;go_wp2_with fail;go_ret;exact⟨rfl,nH.out⟩
theorem DK (g:Nat) (s:Bool) (w:World) (hc:w.cell? ⟨g,2,none⟩=some (.bool s)):
 Calls Tryz.prog 23 #[.pointer (some ⟨g,0,none⟩)] w fun e w'=>e=.returned (.string ⟨(jn s).toArray⟩)∧w'=w:=by
 cases s
 · go_enter Tryz.func23,Tryz.ntmps23
   go_wp2;go_ret;exact⟨rfl,rfl⟩
 go_enter Tryz.func23,Tryz.ntmps23;go_wp2;go_ret;exact⟨rfl,rfl⟩
theorem Bm {α:Type} (f:α→List Value) (c:Nat):∀(l:List α),(∀a∈l,(f a).length=c)→∀(j:Nat) (hj:j<l.length) (i:Nat),i<c→(l.flatMap f)[j*c+i]?=(f l[j])[i]?
 |[],_,j,hj,_,_=>absurd hj (by simp)
 |a::l,h,0,_,i,hi=>by
  have:=h a (by simp);rw[List.flatMap_cons,Nat.zero_mul,Nat.zero_add,agK (by omega)];rfl
 |a::l,h,j+1,hj,i,hi=>by
  have h0:=h a (by simp);rw[List.flatMap_cons,agv (by rw[h0,Nat.succ_mul];omega),show (j+1)*c+i-(f a).length=j*c+i by rw[h0,Nat.succ_mul];omega];exact Bm f c l (fun b hb=>h b (by simp[hb])) j (by simpa using hj) i hi
theorem KS.form {W:World} {base lo:Nat} {kv:Value} {ks:List DKey} (h:KS W base lo kv ks):∃A c,kv=.slice A ks.length c∧ks.length≤c∧c≤maxLen:=by
 obtain⟨gb,h1,_,h2,h3⟩:=h;have hl:gb.length=ks.length:=by rw[←h1];simp
 rcases h3 with ⟨e,h0⟩|⟨g,cap,cur,e,_,_,hc,hm,_⟩
 · exact⟨none,0,by rw[e];congr 1;omega,by omega,by decide⟩
 exact⟨_,cap,by rw[e,hl],by omega,hm⟩
theorem KS.at_ {W:World} {base lo:Nat} {kv:Value} {ks:List DKey} (h:KS W base lo kv ks) (j:Nat) (hj:j<ks.length):∃g c pv sv,kv=.slice (some ⟨g,0,none⟩) ks.length c∧g<W.heap.size∧KV W lo ks[j] pv sv∧W.rangeAt g (j*75) (eS ks[j] pv sv):=by
 obtain⟨gb,h1,h2,h3,h4⟩:=h;have hl:gb.length=ks.length:=by rw[←h1];simp
 have Y0:j<gb.length:=by omega
 rcases h4 with ⟨_,h0⟩|⟨g,cap,cur,e,_,hg,hc,hm,dX,ht⟩
 · omega
 have hp:=h2 gb[j] (agl _)
 have hk:gb[j].1=ks[j]:=by
  have:=List.getElem_map (·.1) (l:=gb) (i:=j) (h:=by simpa using Y0);rw[←this];congr 1
 refine⟨g,cap,gb[j].2.1,gb[j].2.2,by rw[e,hl],(af3.1 hg).1,by rw[←hk];exact hp.2.1,fun i v hv=>?_⟩
 have hi:i<75:=by
  have Tu:=aT hp.1 gb[j].2.1 gb[j].2.2;rw[hk] at Tu;rw[←Tu];exact(agI.1 hv).1
 have hle:j*75+i<gb.length*75:=by
  have:(j+1)*75≤gb.length*75:=Nat.mul_le_mul_right 75 Y0;omega
 rw[agb _ _ _ _ _ _ hg,←Array.getElem?_toList,←List.getElem?_take_of_lt hle,ht,Bm _ 75 gb (fun p hp=>aT (h2 p hp).1 _ _) j Y0 i hi,hk];exact hv
def nm (d:DDesc):List UInt8:=Lib.join (d.wraps++if 0<d.m then [jn d.sorted] else []) [45]
def mY (d:DDesc):Bool:=d.keys.any (·.ranged)
theorem xm {w:World} {base E n:Nat} {v:Value} {xs:List Value} (h:w.ownsRow base E 1 v n xs):Ow w base E v xs:=by
 obtain⟨h1,h2⟩:=h;rw[Nat.mul_one] at h1;rcases h2 with ⟨rfl,rfl⟩|⟨g,cap,cur,rfl,hb,hg,hn,hm,hs,ht⟩
 · obtain rfl:=List.eq_nil_of_length_eq_zero h1
   exact Ow.nil_ _ _ _ _
 refine⟨some ⟨g,0,none⟩,cap,by rw[h1],by omega,hm,fun _=>⟨g,cur,rfl,hb,hg,by omega,?_⟩⟩;rw[h1];rw[Nat.mul_one] at ht;exact ht
theorem FX (A:Option Addr) (c:Nat) (l:List (List UInt8)) (w:World) (hs:Sl w w.heap.size A (ST l)) (hl:l.length≤1000):
 Calls Tryz.prog 28 #[.slice A l.length c] w fun e W'=>∃v,e=.returned v∧Ow W' w.heap.size 9 v (ST l)∧Below w.heap.size w W':=by
 cases A with
 |none=>
  have h0:l.length=0:=by
   rcases Nat.eq_zero_or_pos l.length with h|h
   · exact h
   obtain⟨b,o,e,_⟩:=hs (by rw[ST_length];exact h)
   cases e
  obtain rfl:=List.eq_nil_of_length_eq_zero h0;refine(Tryz.slices_Clone_string_nil _ c w).mono ?_;rintro e W' ⟨rfl,rfl⟩;exact⟨_,rfl,Ow.nil_ _ _ _ _,af5 _ _⟩
 |some a=>
  by_cases h0:l=[]
  · subst h0
    refine(Tryz.slices_Clone_string_zero a c w).mono ?_;rintro e W' ⟨v,rfl,ho,_,hb⟩;exact⟨v,rfl,xm ho,hb⟩
  obtain⟨b,o,e,_,hc⟩:=hs (by rw[ST_length];exact List.length_pos_iff.2 h0);injection e with e;subst e;refine(Tryz.slices_Clone_string b o l.length c (l.map fun p=>⟨p.toArray⟩) w (by simp) (by omega) (fun j hj=>?_)).mono ?_
  · have yG:j<(ST l).length:=by simpa using hj
    rw[hc j yG,js];congr 2;rw[agB,List.getElem?_map,age (by simpa using hj)];rfl
  rintro e W' ⟨v,rfl,ho,_,hb⟩
  have e1:((l.map fun p=>(⟨p.toArray⟩:ByteArray)).take l.length).map Value.string=ST l:=by
   rw[af7 (by simp),List.map_map];rfl
  rw[e1] at ho;exact⟨v,rfl,xm ho,hb⟩
theorem DM (d:DDesc) (hd:d.Fit) (base g:Nat) (w:World) (hD:DA w base g d):
 Calls Tryz.prog 11 #[.pointer (some ⟨g,0,none⟩)] w fun e W'=>e=.returned (.string ⟨(nm d).toArray⟩)∧Below w.heap.size w W':=by
 obtain⟨v,kv,hR,hO,hK⟩:=hD;obtain⟨Av,cv,rfl,oV,hv2⟩:=hO.form;rw[ST_length] at hR oV hO;have pT:g<w.heap.size:=(af3.1 hR).1;have mf:=hd.wraps;have hlen:∀x∈d.wraps,x.length≤11:=fun x hx=>agx (rZ x (hd.words x hx)).1 (by omega)
 have Cm:=(pg d.sorted).1;have c0:=Ds hR;have HR:=aa hR;have HC:=aa (FX Av cv d.wraps w hO.sl (by omega));obtain⟨m,hm⟩:=ab d.wraps.length;rw[←hm] at c0 HC mf;have Hm:=aa hm;have WO:=aa hlen;have Hml:=aa Cm;clear hR hO hK hm hlen Cm hd oV;go_enter Tryz.func11,Tryz.ntmps11;go_wp2_with fail;refine HC.out.mono ?_;rintro e w1 ⟨v1,rfl,jc,aZ⟩;have TP:=(aZ.block g pT).trans HR.out;have c1:=Pc TP;have c2:=Ts TP;have gq:=aZ.size;obtain⟨A1,k1,rfl,nq,Ri⟩:=jc.form;rw[ST_length,←Hm.out] at jc nq⊢;have Y2:=aa jc;have jN:=aa aZ;clear HC aZ jc TP c0;obtain⟨mm,Y4⟩:=ab d.m;rw[←Y4] at c1;have VW:=aa Y4;clear Y4
 by_cases h0:0<mm
 · have Kp:decide ((0:Int)<(mm:Int))=true:=af9 (by omega)
   have hf:nm d=Lib.join (d.wraps++[jn d.sorted]) [45]:=by rw[nm,if_pos (by rw[←VW.out];exact h0)]
   have Hf:=aa hf;have Y5:=aa (DK g d.sorted w1 c2);obtain⟨mw,hmw⟩:=ab (jn d.sorted);rw[←hmw] at Y5 Hf Hml;clear hf hmw c2;go_wp2_with fail;refine Y5.out.mono ?_;rintro e w2 ⟨rfl,bD⟩;rw[bD];clear bD Y5;go_wp2_with (first|(at_builtin;go_loud (refine aq (m:=1) (c:=1) (base:=w.heap.size) (xs:=ST d.wraps) (v:=.slice A1 m k1) (A:=some ⟨w1.heap.size,0,none⟩) (B:=w1.heap.size+1) (news:=[.string ⟨mw.toArray⟩]) elT rfl (.tmp 14) (.tmp 17) rfl rfl (Y2.out.alloc _) rfl (Sl.one w1 _ _) rfl (by simp;rfl) (by rw[ST_length,←Hm.out];simp[maxLen];omega) (by rw[ST_length,←Hm.out];omega) (by rw[agn];omega) ?_);intro v3 w3 cZ fl j0;rw[u9] at cZ;obtain⟨A3,k3,rfl,abF,afj⟩:=cZ.form;have VV:=aa cZ;have HG3:=aa fl;clear fl cZ j0));have hjl:(d.wraps++[mw]).length=d.wraps.length+1:=by simp
   have hjj:=Bl 45 11 (d.wraps++[mw]) (fun x hx=>by
    rcases List.mem_append.1 hx with hx|hx
    · exact WO.out x hx
    rw[agE] at hx;subst hx;exact Hml.out)
   rw[hjl,←Hm.out] at hjj;have hj:=mc A3 k3 (d.wraps++[mw]) 45 w3 VV.out.sl (by rw[ST_length] at abF;exact abF) (by omega) (by rw[hjl,←Hm.out];omega);rw[hjl] at hj;refine hj.mono ?_;rintro e w4 ⟨rfl,dn⟩;have de:Below w.heap.size w w3:=bE jN.out (af2 _) Y2.out HG3.out;have VP:=aa (de.trans (dn.mono de.size));clear hjl hjj hj dn de;go_wp2_with fail;go_ret;exact⟨by rw[Hf.out];rfl,VP.out⟩
 obtain rfl:mm=0:=by omega
 have hf:nm d=Lib.join d.wraps [45]:=by rw[nm,if_neg (by rw[←VW.out];omega),List.append_nil]
 have Hj:=aa (mc A1 k1 d.wraps 45 w1 (Y2.out.sl) (by rw[←Hm.out];exact nq) (by have:=Bl 45 11 d.wraps WO.out;rw[←Hm.out] at this;omega) (by rw[←Hm.out];omega));rw[←Hm.out] at Hj;rw[←hf] at Hj;clear hf h0;go_wp2_with fail;refine Hj.out.mono ?_;rintro e w2 ⟨rfl,bt⟩;go_wp2_with fail;go_ret;exact⟨rfl,jN.out.trans (bt.mono jN.out.size)⟩
theorem DN (k:DKey) (hk:k.top.Ok) (pv sv:Value) (w:World):
 Calls Tryz.prog 30 #[.agg (eS k pv sv).toArray] w fun e W'=>e=.returned (.bool k.ranged)∧Below w.heap.size w W':=by
 obtain⟨cs,bB⟩:∃cs,cs=(eS k pv sv).toArray:=⟨_,rfl⟩;have aF:=af4 w (.cells cs 62);obtain⟨W0,aM⟩:=ab (w.alloc (.cells cs 62));rw[←aM] at aF;have bL:Below w.heap.size w W0:=by rw[aM];exact(af5 _ w).alloc (af2 _) _
 rw[←bB];have afk:cs[73]?=some (.bool k.ranged):=by rw[bB,agr];exact mS hk pv sv
 have gJ:=aa aM;have dh:=aa bL;clear bB aF aM bL;go_enter Tryz.func30,Tryz.ntmps30;go_wp2_with fail;go_ret;exact⟨rfl,by rw[←gJ.out];exact dh.out⟩
theorem FY (base lo:Nat) (kv:Value) (ks:List DKey) (hl:ks.length≤4096) (w:World) (hK:KS w base lo kv ks) (qF:∀k∈ks,k.top.Ok):
 Calls Tryz.prog 59 #[kv,.func (.func 30) #[] #[]] w fun e w'=>(∃i:Int,e=.returned (.int .i64 i)∧((0≤i∧ks.any (·.ranged)=true)∨(i=-1∧ks.any (·.ranged)=false)))∧Below w.heap.size w w':=by
 obtain⟨Ak,ck,rfl,nq,Ri⟩:=hK.form;obtain⟨m,hm⟩:=ab ks.length;rw[←hm] at hl nq hK⊢;have Hm:=aa hm;have HK:=aa hK;have Vz:=aa qF;have IK:=aa (show (Tryz.prog.info? 62).map (·.size)=some 75 by kernel_rfl);clear hm hK qF;go_enter Tryz.func59,Tryz.ntmps59;go_wp2;go_loopw [4,8] (fun r i wr=>∃k:Nat,k≤m∧i=.int .i64 k∧r=.int .i64 0∧Hid ((ks.take k).any (·.ranged)=false)∧Below w.heap.size w wr) (fun _ i _=>m-(intOf i).toNat)
 case atStart=>exact⟨0,agu _,rfl,rfl,aa rfl,af5 _ _⟩
 case round=>
  obtain⟨k,hk,rfl,rfl,HN,hb⟩:=hrel
  by_cases aL:k<m
  · have zf:k<ks.length:=by have:=Hm.out;omega
    obtain⟨ky,TM⟩:∃ky,ky=ks[k]:=⟨_,rfl⟩;obtain⟨gk,ck',pv,sv,he,jR,gF,rO⟩:=HK.out.at_ k zf;rw[←TM] at gF rO;injection he with he1 he2 he3;subst he1;have pH:ky∈ks:=by rw[TM];exact agl _
    have gH:ky.top.Ok:=Vz.out _ pH;have FU:wr.rangeAt gk (k*75) (eS ky pv sv):=fun j u hu=>et (rO j u hu) hb
    have jO:(ks.take (k+1)).any (·.ranged)=ky.ranged:=by
     rw[agh zf,List.any_append,HN.out,TM];simp
    have hrf:=DN ky gH pv sv wr;obtain⟨L,hL⟩:=ab (eS ky pv sv);have dX:L.length=75:=by rw[hL];exact aT gH _ _
    rw[←hL] at hrf FU;have Hrf:=aa hrf;have Ld:=aa FU;have ML:Hid ((Tryz.prog.info? 62).map (·.size)=some L.length):=aa (by rw[dX];exact IK.out);have oh:=aa jO;have Fz:=aa pH;have Hb:=aa hb;obtain⟨b,TK⟩:=ab ky.ranged;rw[←TK] at Hrf oh;have Hbr:=aa TK;clear TM he2 he3 jR gF rO gH FU jO hrf hL dX pH hb TK;go_wp2_with (first|((with_reducible refine wpList_load_mid ?_ 62 (.tmp 14) ?_ gk (k*75) ?_ L _ Ld.out Tryz.underlying62 ?_ ML.out ?_);rfl;rfl;rfl;rfl));refine Hrf.out.mono ?_;rintro e w2 ⟨rfl,bt⟩;have FR:=aa (Hb.out.trans (bt.mono Hb.out.size));clear bt
    cases b with
    |true=>
     go_wp2_with fail;go_ret;exact⟨⟨_,rfl,.inl ⟨by omega,List.any_eq_true.2 ⟨ky,Fz.out,Hbr.out.symm⟩⟩⟩,FR.out⟩
    |false=>
     go_wp2_with fail;exact⟨⟨k+1,by omega,rfl,rfl,oh,FR.out⟩,by simp[intOf];omega⟩
  obtain rfl:k=m:=by omega
  have hN:ks.any (·.ranged)=false:=by rw[←HN.out,af7 (by have:=Hm.out;omega)]
  have HNN:=aa hN;have Hb:=aa hb;clear hN hb;go_wp2_with fail;go_ret;exact⟨⟨_,rfl,.inr ⟨rfl,HNN.out⟩⟩,Hb.out⟩
theorem yt (base lo:Nat) (kv:Value) (ks:List DKey) (hl:ks.length≤4096) (w:World) (hK:KS w base lo kv ks) (qF:∀k∈ks,k.top.Ok):
 Calls Tryz.prog 29 #[kv,.func (.func 30) #[] #[]] w fun e w'=>e=.returned (.bool (ks.any (·.ranged)))∧Below w.heap.size w w':=by
 have HI:=aa (FY base lo kv ks hl w hK qF);obtain⟨b,hb⟩:=ab (ks.any (·.ranged));rw[←hb] at HI⊢;clear hb hK qF hl;go_enter Tryz.func29,Tryz.ntmps29;go_wp2_with fail;refine HI.out.mono ?_;rintro e w2 ⟨⟨i,rfl,⟨h0,rfl⟩|⟨rfl,rfl⟩⟩,bt⟩
 · have hd:decide ((0:Int)≤i)=true:=af9 h0
   go_wp2_with fail;go_ret;exact⟨by simp,bt⟩
 go_wp2_with fail;go_ret;exact⟨by simp,bt⟩
theorem xo (d:DDesc) (hd:d.Fit) (base g:Nat) (w:World) (hD:DA w base g d):
 Calls Tryz.prog 13 #[.pointer (some ⟨g,0,none⟩)] w fun e W'=>e=.returned (.bool (mY d))∧Below w.heap.size w W':=by
 obtain⟨v,kv,hR,hO,hK⟩:=hD;have c3:=OZ hR;have HC:=aa (yt base (g+1) kv d.keys (by have:=hd.num;omega) w hK (fun k hk=>(hd.keys k hk).top));rw[mY];obtain⟨b,hb⟩:=ab (d.keys.any (·.ranged));rw[←hb] at HC⊢;clear hb hR hO hK hd;go_enter Tryz.func13,Tryz.ntmps13;go_wp2_with fail;refine HC.out.mono ?_;rintro e w2 ⟨rfl,bt⟩;go_wp2_with fail;go_ret;exact⟨rfl,bt⟩
end Go.Proofs.YtcjioogololnoaaGreatDoor
namespace Go.Proofs.YtcjioogololnoaaGreatDoor
def s0:List UInt8:=[112,107,104,40,48,50,99,54,48,52,55,102,57,52,52,49,101,100,55,100,54,100,51,48,52,53,52,48,54,101,57,53,99,48,55,99,100,56,53,99,55,55,56,101,52,98,56,99,101,102,51,99,97,55,97,98,97,99,48,57,98,57,53,99,55,48,57,101,101,53,41]
def k0:List UInt8:=[2,198,4,127,148,65,237,125,109,48,69,64,110,149,192,124,216,92,119,142,75,140,239,60,167,171,172,9,185,92,112,158,229]
def d0:DDesc:=⟨[eD],0,false,[⟨k0,aP,[],false,false⟩]⟩
def t0:List UInt8:=[112,107,104,40,48,50,99,54,48,52,55,102,57,52,52,49,101,100,55,100,54,100,51,48,52,53,52,48,54,101,57,53,99,48,55,99,100,56,53,99,55,55,56,101,52,98,56,99,101,102,51,99,97,55,97,98,97,99,48,57,98,57,53,99,55,48,57,101,101,53,41,35,56,102,104,100,57,112,119,117]
theorem Lf:Lib.cut s0 [35]=(s0,[],false):=DE s0 35 (by decide+kernel)
theorem PC:s0.all (fun x=>decide (x∈kU))=true:=by decide+kernel
theorem F2:aQ s0=some d0:=by decide+kernel
theorem oF:bU s0=(0,some d0):=by
 rw[bU,if_neg (by decide),Lf];simp only[];rw[if_pos PC,if_neg (by decide),F2]
theorem F4:iJ d0=t0:=by decide+kernel
theorem Ga:nm d0=[112,107,104]:=by decide+kernel
theorem Bn:mY d0=false:=rfl
end Go.Proofs.YtcjioogololnoaaGreatDoor

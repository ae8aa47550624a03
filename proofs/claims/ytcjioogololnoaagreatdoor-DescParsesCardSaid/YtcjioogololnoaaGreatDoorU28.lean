/- Of any text: the program's descriptors and the reference's are read and written alike (DescParses). No condition. -/
import Derived.Test.YtcjioogololnoaaGreatDoorU1
import Derived.Test.YtcjioogololnoaaGreatDoorU25
import Derived.Test.YtcjioogololnoaaGreatDoorU19
import Derived.Test.YtcjioogololnoaaGreatDoorU20
import Derived.Test.YtcjioogololnoaaGreatDoorU23
import Derived.Test.YtcjioogololnoaaGreatDoorU15
import Derived.Test.YtcjioogololnoaaGreatDoorU27
set_option maxRecDepth 1000000
set_option maxHeartbeats 16000000
set_option linter.unusedVariables false
set_option linter.unusedSimpArgs false
namespace Go.Proofs.YtcjioogololnoaaGreatDoor
open Go Go.RowKit Go.Shelf
theorem ad8 (x:BitVec 64) (y:UInt8):bits .xor .u64 ((x.toNat:Int)%34359738368*32) (y.toNat:Int)=((((x &&& 0x7ffffffff)<<<5) ^^^ y.toBitVec.setWidth 64).toNat:Int):=by
 have h:=abd x y
 have h1:bits .and .u64 (x.toNat:Int) 34359738367=(x.toNat:Int)%34359738368:=by
  refine(u64_and_nat x.toNat 34359738367 x.isLt (by omega)).trans ?_;rw[show (34359738367:Nat)=2^35-1 from rfl,Nat.and_two_pow_sub_one_eq_mod];rfl
 rw[h1,IntKind.wrap_u64,Int.emod_eq_of_lt (by omega) (by omega)] at h;exact h
theorem Qp (b:BitVec 64) (q:Nat):(b>>>q) &&& 1=1↔b.toNat/2^q%2=1:=by
 have e:((b>>>q) &&& 1).toNat=b.toNat/2^q%2:=by
  rw[BitVec.toNat_and,BitVec.toNat_ushiftRight,Nat.shiftRight_eq_div_pow,show (1:BitVec 64).toNat=2^1-1 from rfl,Nat.and_two_pow_sub_one_eq_mod,Nat.pow_one]
 rw[←e];constructor
 · intro h;rw[h];rfl
 intro h;exact BitVec.eq_of_toNat_eq h
theorem kH (x:BitVec 64) (y:UInt8) (w:World):
 Calls Tryz.prog 43 #[.int .u64 (x.toNat:Int),.int .i64 (y.toNat:Int)] w fun e W'=>e=.returned (.int .u64 ((bF x y).toNat:Int))∧Below w.heap.size w W':=by
 have Kf:=x.isLt;have CW:=y.toNat_lt;go_enter Tryz.func43,Tryz.ntmps43;go_wp2_with fail;rw[ad8 x y,abe x];obtain⟨c0,iu⟩:∃c0,c0=((x &&& 0x7ffffffff)<<<5) ^^^ y.toBitVec.setWidth 64:=⟨_,rfl⟩;obtain⟨b0,bL⟩:∃b0,b0=x>>>35:=⟨_,rfl⟩;rw[←iu,←bL];obtain⟨wA,hwA⟩:=ab (w.alloc (Obj.cells #[Value.int IntKind.u64 1056006543753,Value.int IntKind.u64 730107360018,Value.int IntKind.u64 118834127661,Value.int IntKind.u64 236335490938,Value.int IntKind.u64 430795026429] 79))
 rw[←hwA];have jm:Below w.heap.size w wA:=by rw[hwA];exact(af5 _ _).alloc (af2 _) _
 have db:∀q,q<5→wA.cell? ⟨w.heap.size,q,none⟩=some (.int .u64 ((OI.getD q 0).toNat:Int)):=by
  intro q hq;rw[hwA,agb _ _ _ _ _ (0,0) (af4 w _)];have hq5:q=0∨q=1∨q=2∨q=3∨q=4:=by omega
  rcases hq5 with rfl|rfl|rfl|rfl|rfl<;>rfl
 have abZ:bF x y=eA b0 c0 5:=by rw[bL,iu];rfl
 have j9:=aa db;have ad9:=aa abZ;have Km:=b0.isLt;clear iu bL hwA db abZ;go_loopw [0,6,7] (fun cv bv i wr=>∃q:Nat,wr=wA∧q≤5∧i=.int .i64 q∧cv=.int .u64 ((eA b0 c0 q).toNat:Int)∧bv=.int .u64 ((b0.toNat/2^q:Nat):Int)) (fun _ _ i _=>5-(intOf i).toNat)
 case atStart=>exact⟨0,rfl,agu _,rfl,rfl,by rw[Nat.pow_zero,Nat.div_one]⟩
 case round=>
  obtain⟨q,rfl,hq,rfl,rfl,rfl⟩:=hrel;obtain⟨z,hz⟩:=ab (eA b0 c0 q);obtain⟨n,hn⟩:∃n,n=b0.toNat/2^q:=⟨_,rfl⟩;rw[←hz,←hn];have ac1:n<18446744073709551616:=by rw[hn];exact Nat.lt_of_le_of_lt (Nat.div_le_self _ _) (by omega)
  have lu:n/2=b0.toNat/2^(q+1):=by rw[hn,Nat.div_div_eq_div_mul,Nat.pow_succ]
  have Hz:=aa hz;have Hn:=aa hn;have Fl:=aa lu;clear hz hn lu
  by_cases aL:q<5
  · have aD:=j9.out q aL
    obtain⟨av,Tf⟩:=ab (OI.getD q 0);rw[←Tf] at aD;have Hav:=aa Tf;clear Tf
    by_cases h1:n%2=1
    · have hb:(b0>>>q) &&& 1=1:=(Qp b0 q).2 (by rw[←Hn.out];exact h1)
      have h1':(n:Int)%2=1:=by omega
      have Hb:=aa hb;clear h1 hb;go_wp2_with fail;refine⟨⟨q+1,trivial,by omega,rfl,?_,?_⟩,by simp[intOf];omega⟩
      · rw[eA,if_pos Hb.out,←Hz.out,←Hav.out,Dp]
      rw[←Fl.out];rfl
    have hb:¬((b0>>>q) &&& 1=1):=fun e=>h1 (by rw[Hn.out];exact(Qp b0 q).1 e)
    have h1':(n:Int)%2=0:=by omega
    have Hb:=aa hb;clear h1 hb;go_wp2_with fail;refine⟨⟨q+1,trivial,by omega,rfl,?_,?_⟩,by simp[intOf];omega⟩
    · rw[eA,if_neg Hb.out,←Hz.out]
    rw[←Fl.out];rfl
  obtain rfl:q=5:=by omega
  go_wp2_with fail;go_ret;rw[ad9.out,←Hz.out];exact⟨rfl,jm⟩
theorem lM (d:UInt8) (h:d.toNat<(⟨bP.toArray⟩:ByteArray).size):(⟨bP.toArray⟩:ByteArray)[d.toNat]=dJ d:=by
 have hl:d.toNat<bP.length:=by simpa [aA] using h
 unfold dJ;rw[agB,age hl];show bP.toArray[d.toNat]'_=_
 simp
def Uo:List UInt8→Nat
 |[]=>0
 |[p]=>p.toNat
 |[p,q]=>3*p.toNat+q.toNat
 |_=>0
theorem GJ {c:UInt8} (h:c∈kU):cC kU c=(jW c:Int):=by rw[cC,if_pos h];rfl
theorem lN (s:ByteArray) (w:World) (hsz:s.size≤8000):
 Calls Tryz.prog 19 #[.string s] w fun e W'=>(((∀c∈s.data.toList,c∈kU)∧e=.returned (.tuple #[.string ⟨(aE s.data.toList).toArray⟩,.bool true]))∨((∃c∈s.data.toList,c∉kU)∧e=.returned (.tuple #[.string ⟨#[]⟩,.bool false])))∧Below w.heap.size w W':=by
 have hS:s.data.toList.length=s.size:=by simp
 obtain⟨S,Ax⟩:=ab s.data.toList;rw[←Ax] at hS⊢;have Ro:=aa Ax;have HS:=aa hS;clear Ax hS;go_enter Tryz.func19,Tryz.ntmps19;go_wp2_with fail;go_loopw [4,5,6,7] (fun cv gv nv i wr=>∃(k:Nat) (v:BitVec 64) (g:List UInt8),k≤s.size∧i=.int .i64 k∧cv=.int .u64 (v.toNat:Int)∧gv=.int .i64 (Uo g:Int)∧nv=.int .i64 (g.length:Int)∧Hid ((S.take k).foldl fz (1,[])=(v,g)∧(∀c∈S.take k,c∈kU))∧Below w.heap.size w wr) (fun _ _ _ i _=>s.size-(intOf i).toNat)
 case atStart=>exact⟨0,1,[],agu _,rfl,rfl,rfl,rfl,aa ⟨rfl,by simp⟩,af5 _ _⟩
 case round=>
  obtain⟨k,v,g,hk,rfl,rfl,rfl,rfl,HF,hb⟩:=hrel
  have qc:Pr (v,g):=by
   have:=Ps (S.take k) (1,[]) ⟨by decide,by simp,by simp⟩ HF.out.2;rw[HF.out.1] at this;exact this
  by_cases aL:k<s.size
  · have Ea:k<S.length:=by rw[HS.out];exact aL
    obtain⟨c,hc⟩:∃c,c=S[k]:=⟨_,rfl⟩
    have bB:∀h,s[k]'h=c:=fun h=>by
     rw[hc];have nD:s=⟨S.toArray⟩:=by rw[Ro.out]
     subst nD;show S.toArray[k]'_=_
     simp
    have Y8:=c.toNat_lt;have Hp:=aa (fun W=>yH ⟨kU.toArray⟩ c.toNat Y8 W (by decide));rw[show (⟨kU.toArray⟩:ByteArray).data.toList=kU from rfl,show UInt8.ofNat c.toNat=c by simp] at Hp;have Hc:=aa hc;clear hc
    by_cases N4:c∈kU
    · have od:=I7 N4
      obtain⟨p,hp⟩:=ab (jW c);have iO:cC kU c=(p:Int):=by rw[GJ N4,hp]
      have qd:(S.take (k+1)).foldl fz (1,[])=fz (v,g) c:=by
       rw[agh Ea,List.foldl_append,HF.out.1,←Hc.out];rfl
      have ab0:∀x∈S.take (k+1),x∈kU:=by
       intro x hx;rw[agh Ea,List.mem_append,agE] at hx;rcases hx with hx|hx
       · exact HF.out.2 x hx
       rw[hx,←Hc.out];exact N4
      have ZF:=aa ab0;rw[iO] at Hp;obtain⟨lo,oY⟩:∃lo:UInt8,lo=UInt8.ofNat (jW c%32):=⟨_,rfl⟩;obtain⟨hi,CX⟩:∃hi:UInt8,hi=UInt8.ofNat (jW c/32):=⟨_,rfl⟩;have aea:lo.toNat=p%32:=by rw[oY,hp,agp];omega
      have ab1:hi.toNat=p/32:=by rw[CX,hp,agp];omega
      have afE:p<96:=by rw[hp];exact od
      have adw:hi.toNat<3:=by omega
      have J9:(p:Int)%32=(lo.toNat:Int):=by omega
      have hdiv:(p:Int)/32=(hi.toNat:Int):=by omega
      obtain⟨x1,tK⟩:=ab (bF v lo);have HT:=aa (fun W=>kH v lo W);rw[←tK] at HT;have Hpd:Hid (jW c/32=hi.toNat):=aa (by rw[ab1,hp]);have Hhi:Hid (UInt8.ofNat (jW c/32)=hi):=aa CX.symm;have Hlo:Hid (bF v (UInt8.ofNat (jW c%32))=x1):=aa (by rw[tK,oY]);have Hb:=aa hb;clear iO ab0 N4 od hp aea ab1 oY CX tK hb
      match g,qc,qd with
      |[],_,qd=>
       have PQ:Hid ((S.take (k+1)).foldl fz (1,[])=(x1,[hi])):=aa (by rw[qd,fz];simp only[];rw[Hlo.out,Hhi.out];rfl);clear qd HF;rw[show Uo []=0 from rfl,show ([]:List UInt8).length=0 from rfl];go_wp2_with fail;refine(Hp.out _).mono ?_;rintro e w2 ⟨rfl,rfl⟩;go_wp2_with fail;refine(HT.out _).mono ?_;rintro e w3 ⟨rfl,bd⟩;have ei:=aa (Hb.out.trans (bd.mono Hb.out.size));clear bd;go_wp2_with fail;exact⟨⟨k+1,x1,[hi],by omega,rfl,rfl,by rw[show Uo [hi]=hi.toNat from rfl],rfl,aa ⟨PQ.out,ZF.out⟩,ei.out⟩,by simp only[intOf];omega⟩
      |[p0],hf,qd=>
       have hp3:p0.toNat<3:=hf.2.2 p0 (by simp);have PQ:Hid ((S.take (k+1)).foldl fz (1,[])=(x1,[p0,hi])):=aa (by rw[qd,fz];simp only[];rw[Hlo.out,Hhi.out];rfl);clear qd HF hf qc;rw[show Uo [p0]=p0.toNat from rfl,show [p0].length=1 from rfl];go_wp2_with fail;refine(Hp.out _).mono ?_;rintro e w2 ⟨rfl,rfl⟩;go_wp2_with fail;refine(HT.out _).mono ?_;rintro e w3 ⟨rfl,bd⟩;have ei:=aa (Hb.out.trans (bd.mono Hb.out.size));clear bd;go_wp2_with fail;exact⟨⟨k+1,x1,[p0,hi],by omega,rfl,rfl,by rw[show Uo [p0,hi]=3*p0.toNat+hi.toNat from rfl];push_cast;rfl,rfl,aa ⟨PQ.out,ZF.out⟩,ei.out⟩,by simp only[intOf];omega⟩
      |[p0,q0],hf,qd=>
       have hp3:p0.toNat<3:=hf.2.2 p0 (by simp);have ZG:q0.toNat<3:=hf.2.2 q0 (by simp);obtain⟨z,hz⟩:∃z:UInt8,z=UInt8.ofNat (9*p0.toNat+3*q0.toNat+jW c/32):=⟨_,rfl⟩;have hzn:z.toNat=9*p0.toNat+3*q0.toNat+hi.toNat:=by rw[hz,agp,Hpd.out];omega
       obtain⟨n2,Cr⟩:∃n2,n2=3*p0.toNat+q0.toNat:=⟨_,rfl⟩;have hzI:(3:Int)*(n2:Int)+(hi.toNat:Int)=(z.toNat:Int):=by omega
       have PQ:Hid ((S.take (k+1)).foldl fz (1,[])=(bF x1 z,[])):=aa (by rw[qd,fz];simp only[];rw[Hlo.out,hz]);have qq:=aa (fun W=>kH x1 z W);have KX:=z.toNat_lt;have hn9:n2≤8:=by omega
       rw[show Uo [p0,q0]=3*p0.toNat+q0.toNat from rfl,←Cr,show [p0,q0].length=2 from rfl];clear qd HF hf qc hz hzn Cr hp3 ZG;go_wp2_with fail;refine(Hp.out _).mono ?_;rintro e w2 ⟨rfl,rfl⟩;go_wp2_with fail;refine(HT.out _).mono ?_;rintro e w3 ⟨rfl,bd⟩;have ei:=aa (Hb.out.trans (bd.mono Hb.out.size));clear bd;go_wp2_with fail;refine(qq.out _).mono ?_;rintro e w4 ⟨rfl,dn⟩;have sz:=aa (ei.out.trans (dn.mono ei.out.size));clear dn;go_wp2_with fail;exact⟨⟨k+1,bF x1 z,[],by omega,rfl,rfl,rfl,rfl,aa ⟨PQ.out,ZF.out⟩,sz.out⟩,by simp only[intOf];omega⟩
      |_::_::_::_,hf,_=>exact absurd hf.2.1 (by simp)
    have iO:cC kU c=-1:=tG kU c N4;rw[iO] at Hp;have mW:Hid (∃x∈S,x∉kU):=aa ⟨c,by rw[Hc.out];exact agl _,N4⟩;have Hb:=aa hb;obtain⟨gn,hgn⟩:=ab (Uo g);obtain⟨gl,pT⟩:=ab g.length;rw[←hgn,←pT];clear iO N4 hb hgn pT HF qc;go_wp2_with fail;refine(Hp.out _).mono ?_;rintro e w2 ⟨rfl,rfl⟩;go_wp2_with fail;go_ret2;exact⟨.inr ⟨mW.out,rfl⟩,Hb.out⟩
  obtain rfl:k=s.size:=by omega
  have fN:Hid (∀c∈S,c∈kU):=aa (by have h:=HF.out.2;rwa [af7 (by rw[HS.out];exact af2 _)] at h);have My:Hid (List.foldl fz (1,[]) S=(v,g)):=aa (by have h:=HF.out.1;rwa [af7 (by rw[HS.out];exact af2 _)] at h);have aeb:=v.isLt;have dh:=aa hb;clear hb
  have AS:g=[]∨(∃p0,g=[p0])∨(∃p0 q0,g=[p0,q0]):=by
   match g,qc.2.1 with
   |[],_=>exact .inl rfl
   |[p0],_=>exact .inr (.inl ⟨p0,rfl⟩)
   |[p0,q0],_=>exact .inr (.inr ⟨p0,q0,rfl⟩)
   |_::_::_::_,h=>exact absurd h (by simp)
  rcases AS with rfl|⟨p0,rfl⟩|⟨p0,q0,rfl⟩
  · skip
    obtain⟨V,hV⟩:=ab v;have HV:Hid (gL (wH (eG S))=V):=aa (by rw[Pq,My.out,hV];rfl);have Wn:=dh;rw[←hV];rw[←hV] at aeb;rw[show (((([]:List UInt8).length:Nat)):Int)=0 from rfl];clear hV My qc dh;clear HF;go_wp2_with fail;go_loopw [4,9] (fun cv iv wr=>∃(j:Nat) (X:BitVec 64),j≤8∧iv=.int .i64 j∧cv=.int .u64 (X.toNat:Int)∧Hid (X=(List.replicate j (0:UInt8)).foldl bF V)∧Below w.heap.size w wr) (fun _ iv _=>8-(intOf iv).toNat)
    case atStart=>exact⟨0,V,by omega,rfl,rfl,aa rfl,Wn.out⟩
    case round=>
     clear Wn;obtain⟨j,X,hj,rfl,rfl,HX,hb⟩:=hrel;have Hb:=aa hb;clear hb
     by_cases LG:j<8
     · have MN:=aa (fun W=>kH X 0 W)
       rw[show (((0:UInt8).toNat:Nat):Int)=0 from rfl] at MN;go_wp2_with fail;refine(MN.out _).mono ?_;rintro e w3 ⟨rfl,bd⟩;have ei:=aa (Hb.out.trans (bd.mono Hb.out.size));clear bd;go_wp2_with fail;exact⟨⟨j+1,bF X 0,by omega,by go_num,rfl,aa (by rw[List.replicate_succ',List.foldl_append,←HX.out];rfl),ei.out⟩,by simp only[intOf];omega⟩
     obtain rfl:j=8:=by omega
     obtain⟨C,hC⟩:∃C,C=X ^^^ 1:=⟨_,rfl⟩;have tK:bits .xor .u64 (X.toNat:Int) 1=(C.toNat:Int):=by rw[hC];exact Dp X 1
     have HC:Hid ((bG C 8).map dJ=aE S):=aa (by
      rw[aE,hC,HX.out];have hz:∀l:List UInt8,gL (l++List.replicate 8 0)=(List.replicate 8 (0:UInt8)).foldl bF (gL l):=fun l=>by rw[gL,List.foldl_append];rfl
      rw[hz,HV.out])
     clear hC HX HV;go_wp2_with fail;go_loopw [10,11] (fun tv iv wr=>∃(j:Nat) (tB:ByteArray),j≤8∧iv=.int .i64 (7-(j:Int))∧tv=.string tB∧Hid (tB=⟨((bG C j).map dJ).toArray⟩)∧Below w.heap.size w wr) (fun _ iv _=>(intOf iv+1).toNat)
     case atStart=>exact⟨0,⟨#[]⟩,by omega,rfl,rfl,aa rfl,Hb.out⟩
     case round=>
      clear Hb tK;obtain⟨j,tB,hj,rfl,rfl,HT,hb⟩:=hrel;have Ue:tB.size≤8:=by rw[HT.out,aA,List.length_map,b7];exact hj
      by_cases aL:j<8
      · obtain⟨m,hm⟩:∃m:Nat,(7:Int)-(j:Int)=(m:Int):=⟨7-j,by omega⟩
        obtain⟨q,hq⟩:∃q,q=5*m:=⟨_,rfl⟩;have hqI:(5:Int)*(m:Int)=(q:Int):=by omega
        have ab2:q≤35:=by omega
        obtain⟨d,hd⟩:∃d,d=C.toNat/2^q%32:=⟨_,rfl⟩;have wG:d<32:=by omega
        have VA:((C.toNat:Int)/2^q).tmod 32=(d:Int):=by rw[Int.tmod_eq_emod_of_nonneg (Int.ediv_nonneg (Int.natCast_nonneg _) (by exact_mod_cast agu _)),hd];push_cast;rfl
        obtain⟨y,hy⟩:=ab (dJ (UInt8.ofNat d))
        have lV:∀h,(⟨bP.toArray⟩:ByteArray)[d]'h=y:=fun h=>by
         have e:(UInt8.ofNat d).toNat=d:=by rw[agp];omega
         have h2:=lM (UInt8.ofNat d) (by rw[e];exact h);rw[hy,←h2];congr 1;exact e.symm
        simp only[bP] at lV;have mJ:=Ln wr y
        have By:Hid (tB++⟨#[y]⟩=⟨((bG C (j+1)).map dJ).toArray⟩):=aa (by
         rw[HT.out,show (⟨#[y]⟩:ByteArray)=⟨([y]:List UInt8).toArray⟩ from rfl,cU,jC,List.map_append,hy,hd,hq,show m=7-j by omega]
         rfl)
        have Hb:=aa hb;have Hm:=aa hm;rw[hm];have hm7:m≤7:=by omega
        clear hm hq hd hy hb HT;go_wp2_with fail;exact⟨⟨j+1,_,by omega,by have:=Hm.out;congr 1;push_cast;omega,rfl,By,Hb.out.alloc Hb.out.size _⟩,by have:=Hm.out;simp only[intOf];omega⟩
      obtain rfl:j=8:=by omega
      rw[show (7:Int)-((8:Nat):Int)=-1 from rfl];have zF:Hid (tB=⟨(aE S).toArray⟩):=aa (by rw[HT.out,HC.out]);have Hb:=aa hb;clear HT HC hb;go_wp2_with fail;go_ret2;exact⟨.inl ⟨fN.out,by rw[←zF.out];rfl⟩,Hb.out⟩
  · have hf:=qc
    obtain⟨V,hV⟩:=ab (bF v p0);have HV:Hid (gL (wH (eG S))=V):=aa (by rw[Pq,My.out,hV];rfl);have yS:=aa (fun W=>kH v p0 W);rw[←hV] at yS;rw[show Uo [p0]=p0.toNat from rfl,show ((([p0].length:Nat)):Int)=1 from rfl];clear hV My qc hf;go_wp2_with fail;refine(yS.out _).mono ?_;rintro e w1 ⟨rfl,aZ⟩;have Wn:=aa (dh.out.trans (aZ.mono dh.out.size));clear aZ dh yS;clear HF;go_wp2_with fail;go_loopw [4,9] (fun cv iv wr=>∃(j:Nat) (X:BitVec 64),j≤8∧iv=.int .i64 j∧cv=.int .u64 (X.toNat:Int)∧Hid (X=(List.replicate j (0:UInt8)).foldl bF V)∧Below w.heap.size w wr) (fun _ iv _=>8-(intOf iv).toNat)
    case atStart=>exact⟨0,V,by omega,rfl,rfl,aa rfl,Wn.out⟩
    case round=>
     clear Wn;obtain⟨j,X,hj,rfl,rfl,HX,hb⟩:=hrel;have Hb:=aa hb;clear hb
     by_cases LG:j<8
     · have MN:=aa (fun W=>kH X 0 W)
       rw[show (((0:UInt8).toNat:Nat):Int)=0 from rfl] at MN;go_wp2_with fail;refine(MN.out _).mono ?_;rintro e w3 ⟨rfl,bd⟩;have ei:=aa (Hb.out.trans (bd.mono Hb.out.size));clear bd;go_wp2_with fail;exact⟨⟨j+1,bF X 0,by omega,by go_num,rfl,aa (by rw[List.replicate_succ',List.foldl_append,←HX.out];rfl),ei.out⟩,by simp only[intOf];omega⟩
     obtain rfl:j=8:=by omega
     obtain⟨C,hC⟩:∃C,C=X ^^^ 1:=⟨_,rfl⟩;have tK:bits .xor .u64 (X.toNat:Int) 1=(C.toNat:Int):=by rw[hC];exact Dp X 1
     have HC:Hid ((bG C 8).map dJ=aE S):=aa (by
      rw[aE,hC,HX.out];have hz:∀l:List UInt8,gL (l++List.replicate 8 0)=(List.replicate 8 (0:UInt8)).foldl bF (gL l):=fun l=>by rw[gL,List.foldl_append];rfl
      rw[hz,HV.out])
     clear hC HX HV;go_wp2_with fail;go_loopw [10,11] (fun tv iv wr=>∃(j:Nat) (tB:ByteArray),j≤8∧iv=.int .i64 (7-(j:Int))∧tv=.string tB∧Hid (tB=⟨((bG C j).map dJ).toArray⟩)∧Below w.heap.size w wr) (fun _ iv _=>(intOf iv+1).toNat)
     case atStart=>exact⟨0,⟨#[]⟩,by omega,rfl,rfl,aa rfl,Hb.out⟩
     case round=>
      clear Hb tK;obtain⟨j,tB,hj,rfl,rfl,HT,hb⟩:=hrel;have Ue:tB.size≤8:=by rw[HT.out,aA,List.length_map,b7];exact hj
      by_cases aL:j<8
      · obtain⟨m,hm⟩:∃m:Nat,(7:Int)-(j:Int)=(m:Int):=⟨7-j,by omega⟩
        obtain⟨q,hq⟩:∃q,q=5*m:=⟨_,rfl⟩;have hqI:(5:Int)*(m:Int)=(q:Int):=by omega
        have ab2:q≤35:=by omega
        obtain⟨d,hd⟩:∃d,d=C.toNat/2^q%32:=⟨_,rfl⟩;have wG:d<32:=by omega
        have VA:((C.toNat:Int)/2^q).tmod 32=(d:Int):=by rw[Int.tmod_eq_emod_of_nonneg (Int.ediv_nonneg (Int.natCast_nonneg _) (by exact_mod_cast agu _)),hd];push_cast;rfl
        obtain⟨y,hy⟩:=ab (dJ (UInt8.ofNat d))
        have lV:∀h,(⟨bP.toArray⟩:ByteArray)[d]'h=y:=fun h=>by
         have e:(UInt8.ofNat d).toNat=d:=by rw[agp];omega
         have h2:=lM (UInt8.ofNat d) (by rw[e];exact h);rw[hy,←h2];congr 1;exact e.symm
        simp only[bP] at lV;have mJ:=Ln wr y
        have By:Hid (tB++⟨#[y]⟩=⟨((bG C (j+1)).map dJ).toArray⟩):=aa (by
         rw[HT.out,show (⟨#[y]⟩:ByteArray)=⟨([y]:List UInt8).toArray⟩ from rfl,cU,jC,List.map_append,hy,hd,hq,show m=7-j by omega]
         rfl)
        have Hb:=aa hb;have Hm:=aa hm;rw[hm];have hm7:m≤7:=by omega
        clear hm hq hd hy hb HT;go_wp2_with fail;exact⟨⟨j+1,_,by omega,by have:=Hm.out;congr 1;push_cast;omega,rfl,By,Hb.out.alloc Hb.out.size _⟩,by have:=Hm.out;simp only[intOf];omega⟩
      obtain rfl:j=8:=by omega
      rw[show (7:Int)-((8:Nat):Int)=-1 from rfl];have zF:Hid (tB=⟨(aE S).toArray⟩):=aa (by rw[HT.out,HC.out]);have Hb:=aa hb;clear HT HC hb;go_wp2_with fail;go_ret2;exact⟨.inl ⟨fN.out,by rw[←zF.out];rfl⟩,Hb.out⟩
  have hf:=qc;have hp3:p0.toNat<3:=hf.2.2 p0 (by simp);have ZG:q0.toNat<3:=hf.2.2 q0 (by simp);obtain⟨z,hz⟩:∃z:UInt8,z=UInt8.ofNat (3*p0.toNat+q0.toNat):=⟨_,rfl⟩;have hzn:3*p0.toNat+q0.toNat=z.toNat:=by rw[hz,agp];omega
  obtain⟨V,hV⟩:=ab (bF v z);have HV:Hid (gL (wH (eG S))=V):=aa (by rw[Pq,My.out,hV,hz];rfl);have yS:=aa (fun W=>kH v z W);rw[←hV] at yS;rw[show Uo [p0,q0]=3*p0.toNat+q0.toNat from rfl,hzn,show ((([p0,q0].length:Nat)):Int)=2 from rfl];clear hV My qc hf hz hzn;go_wp2_with fail;refine(yS.out _).mono ?_;rintro e w1 ⟨rfl,aZ⟩;have Wn:=aa (dh.out.trans (aZ.mono dh.out.size));clear aZ dh yS;clear HF;go_wp2_with fail;go_loopw [4,9] (fun cv iv wr=>∃(j:Nat) (X:BitVec 64),j≤8∧iv=.int .i64 j∧cv=.int .u64 (X.toNat:Int)∧Hid (X=(List.replicate j (0:UInt8)).foldl bF V)∧Below w.heap.size w wr) (fun _ iv _=>8-(intOf iv).toNat)
  case atStart=>exact⟨0,V,by omega,rfl,rfl,aa rfl,Wn.out⟩
  case round=>
   clear Wn;obtain⟨j,X,hj,rfl,rfl,HX,hb⟩:=hrel;have Hb:=aa hb;clear hb
   by_cases LG:j<8
   · have MN:=aa (fun W=>kH X 0 W)
     rw[show (((0:UInt8).toNat:Nat):Int)=0 from rfl] at MN;go_wp2_with fail;refine(MN.out _).mono ?_;rintro e w3 ⟨rfl,bd⟩;have ei:=aa (Hb.out.trans (bd.mono Hb.out.size));clear bd;go_wp2_with fail;exact⟨⟨j+1,bF X 0,by omega,by go_num,rfl,aa (by rw[List.replicate_succ',List.foldl_append,←HX.out];rfl),ei.out⟩,by simp only[intOf];omega⟩
   obtain rfl:j=8:=by omega
   obtain⟨C,hC⟩:∃C,C=X ^^^ 1:=⟨_,rfl⟩;have tK:bits .xor .u64 (X.toNat:Int) 1=(C.toNat:Int):=by rw[hC];exact Dp X 1
   have HC:Hid ((bG C 8).map dJ=aE S):=aa (by
    rw[aE,hC,HX.out];have hz:∀l:List UInt8,gL (l++List.replicate 8 0)=(List.replicate 8 (0:UInt8)).foldl bF (gL l):=fun l=>by rw[gL,List.foldl_append];rfl
    rw[hz,HV.out])
   clear hC HX HV;go_wp2_with fail;go_loopw [10,11] (fun tv iv wr=>∃(j:Nat) (tB:ByteArray),j≤8∧iv=.int .i64 (7-(j:Int))∧tv=.string tB∧Hid (tB=⟨((bG C j).map dJ).toArray⟩)∧Below w.heap.size w wr) (fun _ iv _=>(intOf iv+1).toNat)
   case atStart=>exact⟨0,⟨#[]⟩,by omega,rfl,rfl,aa rfl,Hb.out⟩
   case round=>
    clear Hb tK;obtain⟨j,tB,hj,rfl,rfl,HT,hb⟩:=hrel;have Ue:tB.size≤8:=by rw[HT.out,aA,List.length_map,b7];exact hj
    by_cases aL:j<8
    · obtain⟨m,hm⟩:∃m:Nat,(7:Int)-(j:Int)=(m:Int):=⟨7-j,by omega⟩
      obtain⟨q,hq⟩:∃q,q=5*m:=⟨_,rfl⟩;have hqI:(5:Int)*(m:Int)=(q:Int):=by omega
      have ab2:q≤35:=by omega
      obtain⟨d,hd⟩:∃d,d=C.toNat/2^q%32:=⟨_,rfl⟩;have wG:d<32:=by omega
      have VA:((C.toNat:Int)/2^q).tmod 32=(d:Int):=by rw[Int.tmod_eq_emod_of_nonneg (Int.ediv_nonneg (Int.natCast_nonneg _) (by exact_mod_cast agu _)),hd];push_cast;rfl
      obtain⟨y,hy⟩:=ab (dJ (UInt8.ofNat d))
      have lV:∀h,(⟨bP.toArray⟩:ByteArray)[d]'h=y:=fun h=>by
       have e:(UInt8.ofNat d).toNat=d:=by rw[agp];omega
       have h2:=lM (UInt8.ofNat d) (by rw[e];exact h);rw[hy,←h2];congr 1;exact e.symm
      simp only[bP] at lV;have mJ:=Ln wr y
      have By:Hid (tB++⟨#[y]⟩=⟨((bG C (j+1)).map dJ).toArray⟩):=aa (by
       rw[HT.out,show (⟨#[y]⟩:ByteArray)=⟨([y]:List UInt8).toArray⟩ from rfl,cU,jC,List.map_append,hy,hd,hq,show m=7-j by omega]
       rfl)
      have Hb:=aa hb;have Hm:=aa hm;rw[hm];have hm7:m≤7:=by omega
      clear hm hq hd hy hb HT;go_wp2_with fail;exact⟨⟨j+1,_,by omega,by have:=Hm.out;congr 1;push_cast;omega,rfl,By,Hb.out.alloc Hb.out.size _⟩,by have:=Hm.out;simp only[intOf];omega⟩
    obtain rfl:j=8:=by omega
    rw[show (7:Int)-((8:Nat):Int)=-1 from rfl];have zF:Hid (tB=⟨(aE S).toArray⟩):=aa (by rw[HT.out,HC.out]);have Hb:=aa hb;clear HT HC hb;go_wp2_with fail;go_ret2;exact⟨.inl ⟨fN.out,by rw[←zF.out];rfl⟩,Hb.out⟩
end Go.Proofs.YtcjioogololnoaaGreatDoor
namespace Go.Proofs.YtcjioogololnoaaGreatDoor
open Go
theorem G1 {s b:List UInt8} (h:ff s=(0,b)):fK (checked b)=s:=by
 unfold ff at h;split at h
 · next h1=>exact absurd (congrArg Prod.fst h) h1
 next h1=>
 split at h
 · exact absurd (congrArg Prod.fst h) (show¬(4:Nat)=0 by decide)
 next h2=>
 split at h
 · next h3=>
   have hb:b=(cu s).2.take ((cu s).2.length-4):=(congrArg Prod.snd h).symm
   have hc:checked b=(cu s).2:=by
    rw[checked,hb,h3,agH]
   rw[hc];exact T7 s (by omega)
 exact absurd (congrArg Prod.fst h) (show¬(5:Nat)=0 by decide)
theorem Em (l:List UInt8) (h:l.length=4):fF (dY l)=l:=by
 match l,h with
 |[a,b,c,d],_=>
  have ha:=a.toNat_lt;have hb:=b.toNat_lt;have hc:=c.toNat_lt;have hd:=d.toNat_lt;rw[be4,fF];have e:∀(n:Nat) (x:UInt8),n%256=x.toNat→UInt8.ofNat n=x:=fun n x h=>UInt8.toNat_inj.1 (by rw[agp];exact h)
  rw[e _ a (by omega),e _ b (by omega),e _ c (by omega),e _ d (by omega)]
theorem ux (b:List UInt8) (h:b.length=78):fV (fU b)=fF (eb (fU b).priv)++b.drop 4:=by
 have e:fV (fU b)=fF (eb (fU b).priv)++(b.getD 4 0::((b.drop 5).take 4++(fF (dY ((b.drop 9).take 4))++((b.drop 13).take 32++b.drop 45)))):=rfl;rw[e,Em _ (by simp[h])];congr 1;rw[List.drop_eq_getElem_cons (show 4<b.length by omega),agB,age (show 4<b.length by omega),Option.getD_some];congr 1
 have e1:b.drop 5=(b.drop 5).take 4++b.drop 9:=by
  conv=>lhs;rw[←agH 4 (b.drop 5)]
  rw[List.drop_drop]
 have e2:b.drop 9=(b.drop 9).take 4++b.drop 13:=by
  conv=>lhs;rw[←agH 4 (b.drop 9)]
  rw[List.drop_drop]
 have e3:b.drop 13=(b.drop 13).take 32++b.drop 45:=by
  conv=>lhs;rw[←agH 32 (b.drop 13)]
  rw[List.drop_drop]
 rw[←e3,←e2,←e1]
theorem LX {s b:List UInt8} (h:ff s=(0,b)) (hl:b.length=78):eO (fU b)=s↔dY (b.take 4)=eb (fU b).priv:=by
 have hlen:(fV (fU b)).length=78:=pY (rL b hl);have hh:eb (fU b).priv<4294967296:=by unfold eb;split<;>decide
 constructor
 · intro e
   have h1:=DT (fV (fU b)) (by omega);rw[show fK (checked (fV (fU b)))=s from e,h] at h1;have h2:b=fV (fU b):=congrArg Prod.snd h1;rw[ux b hl] at h2;have h3:=congrArg (List.take 4) h2;rw[List.take_append_of_le_length (show 4≤(fF _).length from af2 4),af7 (show (fF _).length≤4 from af2 4)] at h3;have h4:=congrArg dY h3;rw[Oq _ hh] at h4;exact h4
 intro e;have h1:fF (eb (fU b).priv)=b.take 4:=by rw[←e,Em _ (by simp[hl])]
 have h2:fV (fU b)=b:=by rw[ux b hl,h1,agH]
 show fK (checked (fV (fU b)))=s;rw[h2];exact G1 h
end Go.Proofs.YtcjioogololnoaaGreatDoor
namespace Go.Proofs.YtcjioogololnoaaGreatDoor
open Go Go.RowKit Go.Shelf
theorem BI (l:List UInt8) (i:Nat) (y:UInt8):(B8 l).set i (.int .u8 (y.toNat:Int))=B8 (l.set i y):=by simp[B8,List.map_set]
theorem LY (dp:UInt8) (F:List UInt8) (ch:Nat) (cn da:List UInt8) (i:Nat) (y:UInt8) (h:i<F.length):(ba ⟨dp,F,ch,cn,da⟩).set (1+i) (.int .u8 (y.toNat:Int))=ba ⟨dp,F.set i y,ch,cn,da⟩:=by
 simp only[ba];rw[Nat.add_comm 1 i,List.set_cons_succ,List.set_append_left _ _ (by simpa using h),BI]
theorem LZ (dp:UInt8) (F:List UInt8) (ch:Nat) (cn da:List UInt8) (n:Nat) (h:F.length=4):(ba ⟨dp,F,ch,cn,da⟩).set 5 (.int .u32 (n:Int))=ba ⟨dp,F,n,cn,da⟩:=by
 simp only[ba];rw[show (5:Nat)=4+1 from rfl,List.set_cons_succ,List.set_append_right _ _ (by simp[h]),B8_length,h,Nat.sub_self,List.set_cons_zero]
theorem L9 (dp:UInt8) (F:List UInt8) (ch:Nat) (cn da:List UInt8) (i:Nat) (y:UInt8) (h:F.length=4) (hi:i<cn.length):(ba ⟨dp,F,ch,cn,da⟩).set (6+i) (.int .u8 (y.toNat:Int))=ba ⟨dp,F,ch,cn.set i y,da⟩:=by
 simp only[ba];rw[show 6+i=(5+i)+1 by omega,List.set_cons_succ,List.set_append_right _ _ (by simp[h];omega),B8_length,h,show 5+i-4=i+1 by omega,List.set_cons_succ,List.set_append_left _ _ (by simpa using hi),BI]
theorem Ma (dp:UInt8) (F:List UInt8) (ch:Nat) (cn da:List UInt8) (i:Nat) (y:UInt8) (h:F.length=4) (hc:cn.length=32):(ba ⟨dp,F,ch,cn,da⟩).set (38+i) (.int .u8 (y.toNat:Int))=ba ⟨dp,F,ch,cn,da.set i y⟩:=by
 simp only[ba];rw[show 38+i=(37+i)+1 by omega,List.set_cons_succ,List.set_append_right _ _ (by simp[h];omega),B8_length,h,show 37+i-4=(32+i)+1 by omega,List.set_cons_succ,List.set_append_right _ _ (by simp[hc]),B8_length,hc,show 32+i-32=i by omega,BI]
theorem sr (dp:UInt8) (F:List UInt8) (ch:Nat) (cn da:List UInt8) (h:F.length=4) (hc:cn.length=32) (hd:da.length=33):(ba ⟨dp,F,ch,cn,da⟩).length=71:=by simp[ba,h,hc,hd]
theorem Uw {w:World} {g t k:Nat} {L:List Value} {v:Value} (h:w.heap[g]?=some (.cells L.toArray t (0,0))):(w.setCell ⟨g,k,none⟩ v).heap[g]?=some (.cells (L.set k v).toArray t (0,0)):=by
 rw[heap_setCell_same w g k _ _ _ h];congr 2;apply Array.ext';simp
theorem QD {w:World} {g t k:Nat} {L:List Value} (h:w.heap[g]?=some (.cells L.toArray t (0,0))) (hk:k<L.length):w.cell? ⟨g,k,none⟩=some L[k]:=by
 rw[agb _ _ _ _ _ (0,0) h];simp[hk]
theorem xR (dp:UInt8) (F:List UInt8) (ch:Nat) (cn da:List UInt8) (h:F.length=4):(ba ⟨dp,F,ch,cn,da⟩)[5]?=some (.int .u32 (ch:Int)):=by
 simp only[ba];rw[agG,agv (by rw[B8_length,h];exact af2 _),B8_length,h];rfl
theorem QE (C:List UInt8) (i:Nat) (h:i<C.length):dY (C.take (i+1))=dY (C.take i)*256+C[i].toNat:=by
 rw[agh h,vF]
theorem Mb (C:List UInt8) (i:Nat) (h:i<4):dY (C.take i)<16777216:=by
 refine agq (lE _) ?_;rw[show (16777216:Nat)=256^3 by decide];exact Nat.pow_le_pow_right (by decide) (by rw[agj];omega)
theorem HQ (d:UInt8):Tryz.prog.built 69 [(0,.int .u8 (d.toNat:Int))]=some (ba ⟨d,List.replicate 4 0,0,List.replicate 32 0,List.replicate 33 0⟩).toArray:=by
 have hp:∀parts,Tryz.prog.built 69 parts=Instr.fill (fun x=>(#[(0,1),(1,4),(5,1),(6,32),(38,33)]:Array (Nat×Nat))[x]?) (ba aP).toArray parts:=fun parts=>by kernel_rfl
 rw[hp];have e0:(ba aP).toArray=([]++([Value.int .u8 0]++(B8 aP.finger++([Value.int .u32 0]++(B8 aP.chain++B8 aP.data))))).toArray:=rfl;rw[e0,fe _ 0 _ _ [] [.int .u8 0] _ rfl rfl,Instr.fill];rfl
theorem QF (b:List UInt8):fU b=⟨b.getD 4 0,(b.drop 5).take 4,dY ((b.drop 9).take 4),(b.drop 13).take 32,b.drop 45⟩:=rfl
end Go.Proofs.YtcjioogololnoaaGreatDoor

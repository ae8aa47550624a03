/- Of any text: the program's descriptors and the reference's are read and written alike (DescParses). No condition. -/
import Derived.Test.YtcjioogololnoaaGreatDoorU1
import Derived.Test.YtcjioogololnoaaGreatDoorU29
import Derived.Test.YtcjioogololnoaaGreatDoorU21
import Derived.Test.YtcjioogololnoaaGreatDoorU9
import Derived.Test.YtcjioogololnoaaGreatDoorU16
set_option maxRecDepth 1000000
set_option maxHeartbeats 16000000
set_option linter.unusedVariables false
set_option linter.unusedSimpArgs false
namespace Go.Proofs.YtcjioogololnoaaGreatDoor
open Go Go.RowKit Go.Shelf
def zD:Array Value:=#[.bool false,.bool false,.int .i64 0,.int .i64 0,.slice none 0 0]
theorem MP:(Tryz.prog.info? 30).map (·.size)=some zD.size:=by kernel_rfl
def Jt (w:World) (S:List UInt8) (e:Ending) (W':World):Prop:=(∃(cs:Array Value) (b:Bool),e=.returned (.tuple #[.agg cs,.bool b])∧cs.size=5∧cs.all (·.oneCell')=true∧(aQ S=none→b=false)∧(∀d,aQ S=some d→b=true∧∃kv,cs=BZ d kv∧KR W' w.heap.size w.heap.size kv d.keys))∧Below w.heap.size w W'
def tC:Prop:=∀(s:ByteArray) (w:World),s.size≤4096→Calls Tryz.prog 20 #[.string s] w (Jt w s.data.toList)
def RPD (w:World) (S:List UInt8) (e:Ending) (W':World):Prop:=(∃cs:Array Value,e=.returned (.tuple #[.agg cs,.int .i64 ((bU S).1:Int)])∧cs.size=5∧cs.all (·.oneCell')=true∧(∀d,(bU S).2=some d→∃kv,cs=BZ d kv∧KR W' w.heap.size w.heap.size kv d.keys))∧Below w.heap.size w W'
theorem Qs (S:List UInt8) (h:∀j,j<S.length→S[j]?≠some 35):Lib.cut S [35]=(S,[],false):=za S 35 (fun x hx e=>by
 obtain⟨j,hj,rfl⟩:=List.mem_iff_getElem.1 hx;exact h j hj (by rw[age hj,e]))
theorem Qt (S:List UInt8) (k:Nat) (hk:k<S.length) (h:∀j,j<k→S[j]?≠some 35) (Up:S[k]?=some 35):Lib.cut S [35]=(S.take k,S.drop (k+1),true):=by
 have e:S=S.take k++35::S.drop (k+1):=by
  conv=>lhs;rw[←agH k S,List.drop_eq_getElem_cons hk]
  rw[age hk] at Up;rw[Option.some.inj Up]
 have h1:=IH (S.take k) (S.drop (k+1)) 35 (fun x hx e2=>by
  obtain⟨j,hj,rfl⟩:=List.mem_iff_getElem.1 hx;rw[agj] at hj;rw[List.getElem_take] at e2;exact h j (by omega) (by rw[age (by omega),e2]))
 rw[←e] at h1;exact h1
theorem BD (MI:tC) (s:ByteArray) (hsz:s.size≤8192) (w:World):
 Calls Tryz.prog 8 #[.string s] w (RPD w s.data.toList):=by
 obtain⟨S,hS⟩:=ab s.data.toList;have nD:s=⟨S.toArray⟩:=by rw[hS]
 rw[←hS];obtain⟨N,hN⟩:=ab s.size;have Lq:S.length=N:=by rw[hN,nD];exact(aA S).symm
 have hNs:=hN.symm;have hN8:N≤8192:=by omega
 have aF:=af4 w (.cells zD 30);obtain⟨W0,aM⟩:=ab (w.alloc (.cells zD 30));rw[←aM] at aF;have bL:Below w.heap.size w W0:=by rw[aM];exact(af5 _ w).alloc (af2 _) _
 obtain⟨B,hB⟩:=ab w.heap.size;rw[←hB] at aF;unfold zD at aM;have jh:=aa Lq;have Jh:=aa nD;have gJ:=aa aM;have HB:=aa hB;have eC:=aa aF;have dh:=aa bL;have Hrd:=aa MI;have pM:Hid (w.heap.size≤B):=aa (by omega);clear hS nD hN Lq hsz aF aM bL hB MI
 by_cases h4:4000<N
 · have Hp:Hid (bU S=(2,none)):=aa (by rw[bU,if_pos (by rw[jh.out];exact h4)])
   go_enter Tryz.func8,Tryz.ntmps8;have WN:=eC.out;rw[gJ.out,HB.out] at WN;go_wp2_with ((with_reducible refine af6 ?_ 30 (.tmp 2) (.tmp 11) ?_ w.heap.size zD ?_ ?_ 30 _ WN MP rfl (by kernel_rfl) ?_);rfl;rfl;rfl;rfl);refine agf (v:=.tuple #[.agg zD,.int .i64 2]) ?_ rfl ⟨⟨zD,by rw[Hp.out];rfl,rfl,by kernel_rfl,by rw[Hp.out];intro d h;cases h⟩,ah ((af5 _ w).alloc (af2 _) _) (af2 _) _⟩
   exact ai rfl _ _ w.heap.size 30 zD (0,0) _ rfl (agd _ _ _ _ _ _ WN) _ rfl Tryz.underlying30 rfl MP
 have hN4:N≤4000:=by omega
 clear h4;go_enter Tryz.func8,Tryz.ntmps8;go_wp2_with fail;refine(show W0=_ from gJ.out)▸?_;rw[←HB.out];go_loopw [4] (fun iv wr=>∃k:Nat,k≤N∧iv=.int .i64 k∧wr=W0∧Hid (∀j,j<k→S[j]?≠some 35)) (fun iv _=>N-(intOf iv).toNat)
 case atStart=>exact⟨0,by omega,rfl,rfl,aa (fun j h=>by omega)⟩
 case round=>
  obtain⟨k,hk,rfl,hw,HF⟩:=hrel;obtain rfl:W0=wr:=hw.symm;clear hw
  by_cases aL:k<N
  · have Ea:k<S.length:=by rw[jh.out];exact aL
    obtain⟨y,hy⟩:∃y,y=S[k]:=⟨_,rfl⟩;have tI:∀h,s[k]'h=y:=fun h=>by rw[na s S Jh.out k h,hy,agB,age Ea];rfl
    have ye:S[k]?=some y:=by rw[hy,age Ea]
    have qn:=Gu y 35;clear hy
    by_cases Up:y=35
    · have q:((y.toNat:Int)!=35)=false:=by rw[show ((y.toNat:Int)!=35)=!decide (y=35) from qn,af9 Up];rfl
      obtain⟨C1,Ba⟩:=ab (S.take k);obtain⟨C2,BR⟩:=ab (S.drop (k+1));obtain⟨bm,I3⟩:=ab true;have hcut:Lib.cut S [35]=(C1,C2,bm):=by rw[Ba,BR,I3];exact Qt S k Ea HF.out (by rw[ye,Up])
      clear Up ye Ea qn
      have FN:Hid (bU S=if C1.all (fun x=>decide (x∈kU))=true then (if bm=true∧C2≠aE C1 then (5,none) else match aQ C1 with|none=>(3,none)|some d=>(0,some d)) else (3,none)):=aa (by
       rw[bU,if_neg (by rw[jh.out];omega),hcut];rfl)
      obtain⟨c1,dW⟩:=ab (s.extract 0 k);have aed:=dW.symm;have RI:Hid (c1.data.toList=C1):=aa (by rw[dW,gj s S Jh.out,Ba];rfl)
      have aee:c1.size≤4000:=by
       have:=congrArg List.length RI.out;rw[Ba,agj,jh.out] at this;simp at this;omega
      have j5:=aa (fun W=>lN c1 W (by omega));rw[RI.out] at j5;obtain⟨jE,eX⟩:∃jE:ByteArray,jE=⟨(aE C1).toArray⟩:=⟨_,rfl⟩;rw[←eX] at j5;obtain⟨c2,ez⟩:=ab (s.extract (k+1) N);have afG:=ez.symm
      have hx:(c2.toList==jE.toList)=decide (C2=aE C1):=by
       rw[agt,agt,ez,gj s S Jh.out,eX,BR,Bool.eq_iff_iff,af7 (by rw[agD,jh.out];omega)];simp
      clear ez;have Jo:=aa (fun W=>Hrd.out c1 W (by omega));rw[RI.out] at Jo;have MQ:k<N:=by omega
      have afH:k≤N:=hk;clear dW Ba BR hcut eX HF aL;go_wp2_with fail;refine(j5.out _).mono ?_;rintro e w1 ⟨h1,aZ⟩;have ja:=aa ((aZ.block B (aJ eC.out)).trans eC.out);have jN:=aa (dh.out.trans (aZ.mono dh.out.size));clear aZ j5;rcases h1 with ⟨dV,rfl⟩|⟨cK,rfl⟩
      · have fN:Hid (C1.all (fun x=>decide (x∈kU))=true):=aa (List.all_eq_true.2 (fun x hx=>af9 (dV x hx)))
        clear dV
        by_cases pD:C2=aE C1
        · rw[af9 pD] at hx
          have BY:Hid (¬(bm=true∧C2≠aE C1)):=aa (fun h=>h.2 pD);clear pD;go_wp2_with fail;refine(Jo.out _).mono ?_;rintro e w2 ⟨⟨cs,b,rfl,dX,dW,nh,oN⟩,bt⟩;have oo:=aa ((bt.block B (aJ ja.out)).trans ja.out);have mH:=aa (jN.out.trans (bt.mono jN.out.size));have fJ:=aa (show (Tryz.prog.info? 30).map (·.size)=some cs.size by rw[dX];kernel_rfl);have kL:=aa (show zD.size=cs.size by rw[dX];rfl);have mR:=aa dW;obtain⟨W3,iF⟩:=ab (w2.alloc (.cells cs 30));have g3:W3.heap[w2.heap.size]?=some (.cells cs 30 (0,0)):=by rw[iF];exact af4 w2 _
          obtain⟨gD,LO⟩:=ab w2.heap.size;rw[←LO] at g3;have jm:Below w2.heap.size w2 W3:=by rw[iF];exact(af5 _ _).alloc (af2 _) _
          have fo:=aa ((jm.block B (aJ oo.out)).trans oo.out);have ei:=aa (mH.out.trans (jm.mono mH.out.size));have G3:=aa g3;have pd:=aa iF;have ZO:=aa LO;have HbA:=aa jm;have je:=aa nh;have lJ:=aa oN;have Sn:=aa jN.out.size;have Wp:Hid (B<w1.heap.size):=aa (aJ ja.out);clear bt dX dW nh oN iF g3 LO jm
          cases hr:aQ C1 with
          |none=>
           obtain rfl:b=false:=je.out hr;have Hp:Hid (bU S=(3,none)):=aa (by rw[FN.out,if_pos fN.out,if_neg BY.out,hr]);clear hr je lJ;go_wp2_with (first|((with_reducible refine af6 ?s1 30 (.tmp 7) (.tmp 52) ?s2 w2.heap.size cs ?s3 ?s4 30 _ (af4 w2 _) fJ.out ?s5 mR.out ?_);(case s1=>rfl);(case s2=>rfl);(case s3=>rfl);(case s4=>rfl);(case s5=>exact kL.out);rw[agi];refine(show W3=_ from pd.out)▸?_;rw[←ZO.out])|((with_reducible refine af6 ?_ 30 (.tmp 2) (.tmp 56) ?_ B zD ?_ ?_ 30 _ fo.out MP rfl (by kernel_rfl) ?_);rfl;rfl;rfl;rfl));refine agf (v:=.tuple #[.agg zD,.int .i64 3]) ?_ rfl ⟨⟨zD,by rw[Hp.out];rfl,rfl,by kernel_rfl,by rw[Hp.out];intro d h;cases h⟩,ah ei.out pM.out _⟩
           exact ai rfl _ _ B 30 zD (0,0) _ rfl (agd _ _ _ _ _ _ fo.out) _ rfl Tryz.underlying30 rfl MP
          |some d=>
           obtain⟨rfl,kv,bB,hK⟩:=lJ.out d hr;have Hp:Hid (bU S=(0,some d)):=aa (by rw[FN.out,if_pos fN.out,if_neg BY.out,hr]);have HK:Hid (KR (W3.setRow B cs) w.heap.size w.heap.size kv d.keys):=aa (((hK.below HbA.out).setRow0 Wp.out Wp.out cs).mono2 Sn.out Sn.out);have oX:=aa bB;clear hr je lJ hK bB;go_wp2_with (first|((with_reducible refine af6 ?s1 30 (.tmp 7) (.tmp 52) ?s2 w2.heap.size cs ?s3 ?s4 30 _ (af4 w2 _) fJ.out ?s5 mR.out ?_);(case s1=>rfl);(case s2=>rfl);(case s3=>rfl);(case s4=>rfl);(case s5=>exact kL.out);rw[agi];refine(show W3=_ from pd.out)▸?_;rw[←ZO.out])|((with_reducible refine aga ?_ 30 (.tmp 7) ?_ gD ?_ 30 cs (0,0) _ G3.out Tryz.underlying30 ?_ fJ.out ?_);rfl;rfl;rfl;rfl)|((with_reducible refine af6 ?_ 30 (.tmp 2) (.tmp 57) ?_ B cs ?_ ?_ 30 _ fo.out fJ.out kL.out mR.out ?_);rfl;rfl;rfl;rfl));refine agf (v:=.tuple #[.agg cs,.int .i64 0]) ?_ rfl ⟨⟨cs,by rw[Hp.out];rfl,kL.out.symm,mR.out,by rw[Hp.out];intro d' h;cases h;exact⟨kv,oX.out,HK.out⟩⟩,ah ei.out pM.out _⟩
           exact ai rfl _ _ B 30 cs (0,0) _ rfl (agd _ _ _ _ _ _ fo.out) _ rfl Tryz.underlying30 rfl fJ.out
        rw[af8 pD] at hx;have Hp:Hid (bU S=(5,none)):=aa (by rw[FN.out,if_pos fN.out,if_pos ⟨I3,pD⟩]);clear pD Jo;go_wp2_with (((with_reducible refine af6 ?_ 30 (.tmp 2) (.tmp 46) ?_ B zD ?_ ?_ 30 _ ja.out MP rfl (by kernel_rfl) ?_);rfl;rfl;rfl;rfl));refine agf (v:=.tuple #[.agg zD,.int .i64 5]) ?_ rfl ⟨⟨zD,by rw[Hp.out];rfl,rfl,by kernel_rfl,by rw[Hp.out];intro d h;cases h⟩,ah jN.out pM.out _⟩
        exact ai rfl _ _ B 30 zD (0,0) _ rfl (agd _ _ _ _ _ _ ja.out) _ rfl Tryz.underlying30 rfl MP
      have Hp:Hid (bU S=(3,none)):=aa (by
       rw[FN.out,if_neg];intro h;obtain⟨x,hx,Cl⟩:=cK;exact Cl (of_decide_eq_true (List.all_eq_true.1 h x hx)))
      clear cK Jo;go_wp2_with (((with_reducible refine af6 ?_ 30 (.tmp 2) (.tmp 33) ?_ B zD ?_ ?_ 30 _ ja.out MP rfl (by kernel_rfl) ?_);rfl;rfl;rfl;rfl));refine agf (v:=.tuple #[.agg zD,.int .i64 3]) ?_ rfl ⟨⟨zD,by rw[Hp.out];rfl,rfl,by kernel_rfl,by rw[Hp.out];intro d h;cases h⟩,ah jN.out pM.out _⟩
      exact ai rfl _ _ B 30 zD (0,0) _ rfl (agd _ _ _ _ _ _ ja.out) _ rfl Tryz.underlying30 rfl MP
    have q:((y.toNat:Int)!=35)=true:=by rw[show ((y.toNat:Int)!=35)=!decide (y=35) from qn,af8 Up];rfl
    have xZ:Hid (∀j,j<k+1→S[j]?≠some 35):=aa (fun j hj=>by
     rcases Nat.lt_or_ge j k with h|h
     · exact HF.out j h
     obtain rfl:j=k:=by omega
     rw[ye];exact fun e=>Up (Option.some.inj e))
    clear Up ye Ea qn;go_wp2_with fail;exact⟨⟨k+1,by omega,by go_num,trivial,xZ⟩,by simp only[intOf];omega⟩
  obtain⟨C1,Ba⟩:=ab (S.take k);obtain⟨C2,BR⟩:∃C2:List UInt8,C2=[]:=⟨_,rfl⟩;obtain⟨bm,I3⟩:=ab false;have hcut:Lib.cut S [35]=(C1,C2,bm):=by rw[Ba,BR,I3,af7 (by rw[jh.out];omega)];exact Qs S (fun j h=>HF.out j (by rw[jh.out] at h;omega))
  have FN:Hid (bU S=if C1.all (fun x=>decide (x∈kU))=true then (if bm=true∧C2≠aE C1 then (5,none) else match aQ C1 with|none=>(3,none)|some d=>(0,some d)) else (3,none)):=aa (by
   rw[bU,if_neg (by rw[jh.out];omega),hcut];rfl)
  obtain⟨c1,dW⟩:=ab (s.extract 0 k);have aed:=dW.symm;have RI:Hid (c1.data.toList=C1):=aa (by rw[dW,gj s S Jh.out,Ba];rfl)
  have aee:c1.size≤4000:=by
   have:=congrArg List.length RI.out;rw[Ba,agj,jh.out] at this;simp at this;omega
  have j5:=aa (fun W=>lN c1 W (by omega));rw[RI.out] at j5;obtain⟨jE,eX⟩:∃jE:ByteArray,jE=⟨(aE C1).toArray⟩:=⟨_,rfl⟩;rw[←eX] at j5;have Jo:=aa (fun W=>Hrd.out c1 W (by omega));rw[RI.out] at Jo;have MQ:¬k<N:=by omega
  clear dW Ba BR hcut eX HF aL;go_wp2_with fail;refine(j5.out _).mono ?_;rintro e w1 ⟨h1,aZ⟩;have ja:=aa ((aZ.block B (aJ eC.out)).trans eC.out);have jN:=aa (dh.out.trans (aZ.mono dh.out.size));clear aZ j5;rcases h1 with ⟨dV,rfl⟩|⟨cK,rfl⟩
  · have fN:Hid (C1.all (fun x=>decide (x∈kU))=true):=aa (List.all_eq_true.2 (fun x hx=>af9 (dV x hx)))
    clear dV;have BY:Hid (¬(bm=true∧C2≠aE C1)):=aa (fun h=>by rw[I3] at h;exact absurd h.1 (by decide));go_wp2_with fail;refine(Jo.out _).mono ?_;rintro e w2 ⟨⟨cs,b,rfl,dX,dW,nh,oN⟩,bt⟩;have oo:=aa ((bt.block B (aJ ja.out)).trans ja.out);have mH:=aa (jN.out.trans (bt.mono jN.out.size));have fJ:=aa (show (Tryz.prog.info? 30).map (·.size)=some cs.size by rw[dX];kernel_rfl);have kL:=aa (show zD.size=cs.size by rw[dX];rfl);have mR:=aa dW;obtain⟨W3,iF⟩:=ab (w2.alloc (.cells cs 30));have g3:W3.heap[w2.heap.size]?=some (.cells cs 30 (0,0)):=by rw[iF];exact af4 w2 _
    obtain⟨gD,LO⟩:=ab w2.heap.size;rw[←LO] at g3;have jm:Below w2.heap.size w2 W3:=by rw[iF];exact(af5 _ _).alloc (af2 _) _
    have fo:=aa ((jm.block B (aJ oo.out)).trans oo.out);have ei:=aa (mH.out.trans (jm.mono mH.out.size));have G3:=aa g3;have pd:=aa iF;have ZO:=aa LO;have HbA:=aa jm;have je:=aa nh;have lJ:=aa oN;have Sn:=aa jN.out.size;have Wp:Hid (B<w1.heap.size):=aa (aJ ja.out);clear bt dX dW nh oN iF g3 LO jm
    cases hr:aQ C1 with
    |none=>
     obtain rfl:b=false:=je.out hr;have Hp:Hid (bU S=(3,none)):=aa (by rw[FN.out,if_pos fN.out,if_neg BY.out,hr]);clear hr je lJ;go_wp2_with (first|((with_reducible refine af6 ?s1 30 (.tmp 7) (.tmp 52) ?s2 w2.heap.size cs ?s3 ?s4 30 _ (af4 w2 _) fJ.out ?s5 mR.out ?_);(case s1=>rfl);(case s2=>rfl);(case s3=>rfl);(case s4=>rfl);(case s5=>exact kL.out);rw[agi];refine(show W3=_ from pd.out)▸?_;rw[←ZO.out])|((with_reducible refine af6 ?_ 30 (.tmp 2) (.tmp 56) ?_ B zD ?_ ?_ 30 _ fo.out MP rfl (by kernel_rfl) ?_);rfl;rfl;rfl;rfl));refine agf (v:=.tuple #[.agg zD,.int .i64 3]) ?_ rfl ⟨⟨zD,by rw[Hp.out];rfl,rfl,by kernel_rfl,by rw[Hp.out];intro d h;cases h⟩,ah ei.out pM.out _⟩
     exact ai rfl _ _ B 30 zD (0,0) _ rfl (agd _ _ _ _ _ _ fo.out) _ rfl Tryz.underlying30 rfl MP
    |some d=>
     obtain⟨rfl,kv,bB,hK⟩:=lJ.out d hr;have Hp:Hid (bU S=(0,some d)):=aa (by rw[FN.out,if_pos fN.out,if_neg BY.out,hr]);have HK:Hid (KR (W3.setRow B cs) w.heap.size w.heap.size kv d.keys):=aa (((hK.below HbA.out).setRow0 Wp.out Wp.out cs).mono2 Sn.out Sn.out);have oX:=aa bB;clear hr je lJ hK bB;go_wp2_with (first|((with_reducible refine af6 ?s1 30 (.tmp 7) (.tmp 52) ?s2 w2.heap.size cs ?s3 ?s4 30 _ (af4 w2 _) fJ.out ?s5 mR.out ?_);(case s1=>rfl);(case s2=>rfl);(case s3=>rfl);(case s4=>rfl);(case s5=>exact kL.out);rw[agi];refine(show W3=_ from pd.out)▸?_;rw[←ZO.out])|((with_reducible refine aga ?_ 30 (.tmp 7) ?_ gD ?_ 30 cs (0,0) _ G3.out Tryz.underlying30 ?_ fJ.out ?_);rfl;rfl;rfl;rfl)|((with_reducible refine af6 ?_ 30 (.tmp 2) (.tmp 57) ?_ B cs ?_ ?_ 30 _ fo.out fJ.out kL.out mR.out ?_);rfl;rfl;rfl;rfl));refine agf (v:=.tuple #[.agg cs,.int .i64 0]) ?_ rfl ⟨⟨cs,by rw[Hp.out];rfl,kL.out.symm,mR.out,by rw[Hp.out];intro d' h;cases h;exact⟨kv,oX.out,HK.out⟩⟩,ah ei.out pM.out _⟩
     exact ai rfl _ _ B 30 cs (0,0) _ rfl (agd _ _ _ _ _ _ fo.out) _ rfl Tryz.underlying30 rfl fJ.out
  have Hp:Hid (bU S=(3,none)):=aa (by
   rw[FN.out,if_neg];intro h;obtain⟨x,hx,Cl⟩:=cK;exact Cl (of_decide_eq_true (List.all_eq_true.1 h x hx)))
  clear cK Jo;go_wp2_with (((with_reducible refine af6 ?_ 30 (.tmp 2) (.tmp 33) ?_ B zD ?_ ?_ 30 _ ja.out MP rfl (by kernel_rfl) ?_);rfl;rfl;rfl;rfl));refine agf (v:=.tuple #[.agg zD,.int .i64 3]) ?_ rfl ⟨⟨zD,by rw[Hp.out];rfl,rfl,by kernel_rfl,by rw[Hp.out];intro d h;cases h⟩,ah jN.out pM.out _⟩
  exact ai rfl _ _ B 30 zD (0,0) _ rfl (agd _ _ _ _ _ _ ja.out) _ rfl Tryz.underlying30 rfl MP
theorem sj {P:Program} {ops:Array Oper} {N:Nat} {Q:Act→World→Prop} {st:Nat→(Act→World→Prop)→Act→World→Prop} {i:Nat} {rest:List (Nat×Nat)} {o:Oper} {a:Act} {w:World} (x y:Operand) (t t2:TypeId) (s1 s2:ByteArray) (b:Bool)
 (ho:ops[i]?=some o) (hw:Region.wanted o (yielded ops a.tmps)=true) (xX:o.op=.binOp .neq t x y t2) (hx:a.eval x=.string s1) (hy:a.eval y=.string s2) (hu:P.underlying t=some .string) (hb:(s1.toList==s2.toList)=b)
 (h:ay P ops Q st N rest (a.put o.dst (.bool (!b))) w):ay P ops Q st N ((i,0)::rest) a w:=by
 simp only[ay,if_true,ho];refine⟨.bool (!b),.inl ⟨hw,fun W _=>?_⟩,h⟩;unfold execOp;subst hb;simp only[xX,hx,hy];go_simp
 done
theorem uO (MI:rV) (qS:tC) (s:ByteArray) (w:World) (hE:Env w):
 Calls Tryz.prog 3 #[.string s] w fun e W'=>e=.returned (.bool true)∧Below w.heap.size w W':=by
 have bW:Tryz.prog.follows .mixedOrders=true:=by kernel_rfl
 have HA:=aa (xp MI w hE);have HSh:=aa (yu s);have HPc:=aa (fun (s':ByteArray) (hz:s'.size≤8192) (W:World) (h:Env W)=>wX MI s' hz W h);have HRp:=aa (fun (s':ByteArray) (hz:s'.size≤8192) (W:World)=>BD qS s' hz W);have HE:=aa hE;clear MI qS hE;go_enter Tryz.func3,Tryz.ntmps3;go_wp2_with fail;refine HA.out.mono ?_;rintro e w1 ⟨rfl,aZ⟩;have jN:=aa aZ;clear aZ HA;go_wp2_with fail;refine(HSh.out w1).mono ?_;rintro e w2 ⟨⟨s',rfl,hs'⟩,bD⟩;rw[←bD];clear bD HSh;go_wp2_with fail;refine(HPc.out s' (by omega) w1 (HE.out.below jN.out)).mono ?_;rintro e w3 ⟨h3,bd⟩;have ei:=aa (jN.out.trans (bd.mono jN.out.size));have Uq:=aa (HRp.out s' (by omega) w3);clear bd HRp;rcases h3 with ⟨n,hn,zW,hp,rfl⟩|⟨d,g,hp,rfl,hD⟩
 · have Hp:=aa hp
   have Hn:=aa hn;clear hp hn;go_wp2_with fail;refine Uq.out.mono ?_;rintro e w4 ⟨⟨cs,rfl,dX,dW,_⟩,dn⟩;rw[Hp.out];have sz:=aa (ei.out.trans (dn.mono ei.out.size));have fJ:=aa (show (Tryz.prog.info? 30).map (·.size)=some cs.size by rw[dX];kernel_rfl);have kL:=aa (show zD.size=cs.size by rw[dX];rfl);have mR:=aa dW;have dt:((n:Int)!=0)=true:=by have:=Hn.out;simpa using this
   clear dn dX dW Uq;go_wp2_with ((with_reducible refine af6 ?s1 30 (.tmp 5) (.tmp 21) ?s2 w4.heap.size cs ?s3 ?s4 30 _ (af4 w4 _) fJ.out ?s5 mR.out ?_);(case s1=>rfl);(case s2=>rfl);(case s3=>rfl);(case s4=>rfl);(case s5=>exact kL.out);rw[agi]);go_ret;exact⟨rfl,sz.out.alloc sz.out.size _⟩
 have gH:d.Fit:=xh hp;have Wq:iM d:=D0 hp;have Hp:=aa hp;have HD:=aa hD;have Bo:=aa gH;have Qu:=aa Wq;obtain⟨tB,MM⟩:∃tB:ByteArray,tB=⟨(iJ d).toArray⟩:=⟨_,rfl⟩;obtain⟨fB,hfB⟩:∃fB:ByteArray,fB=⟨(nm d).toArray⟩:=⟨_,rfl⟩;have htd:tB.data.toList=iJ d:=by rw[MM]
 have uQ:(iJ d).length≤6700:=by rw[iJ,agc,agm,r7];have:=(mr gH).1;omega
 obtain⟨N,hN⟩:=ab tB.size;have Vg:N=(iJ d).length:=by rw[hN,MM,aA]
 have afI:N≤6700:=by omega
 have hNs:=hN.symm;have HtB:=aa MM;have HfB:=aa hfB;have Htd:=aa htd;have HNl:=aa Vg;have htt:(tB.toList==tB.toList)=true:=beq_self_eq_true _;have hff:(fB.toList==fB.toList)=true:=beq_self_eq_true _;clear hp hD gH Wq MM hfB htd uQ hN Vg;go_wp2_with fail;refine Uq.out.mono ?_;rintro e w4 ⟨⟨cs,rfl,dX,dW,oN⟩,dn⟩;rw[Hp.out];obtain⟨kv,bB,hK⟩:=oN d (by rw[Hp.out]);have sz:=aa (ei.out.trans (dn.mono ei.out.size));have fJ:=aa (show (Tryz.prog.info? 30).map (·.size)=some cs.size by rw[dX];kernel_rfl);have kL:=aa (show zD.size=cs.size by rw[dX];rfl);have mR:=aa dW;obtain⟨W5,xP⟩:=ab (w4.alloc (.cells cs 30));obtain⟨gW,Rt⟩:=ab w4.heap.size;have g5:W5.heap[gW]?=some (.cells cs 30 (0,0)):=by rw[xP,Rt];exact af4 w4 _
 have jm:Below w4.heap.size w4 W5:=by rw[xP];exact(af5 _ _).alloc (af2 _) _
 have Ed:=aa (sz.out.trans (jm.mono sz.out.size));have HK5:=aa (hK.below jm);have HD5:=aa ((HD.out.below dn).below jm);have G5:=aa g5;have Ur:=aa xP;have HgW:=aa Rt;have oX:=aa bB;clear dn dX dW Uq oN bB hK xP Rt g5 jm HD;go_wp2_with ((with_reducible refine af6 ?s1 30 (.tmp 5) (.tmp 21) ?s2 w4.heap.size cs ?s3 ?s4 30 _ (af4 w4 _) fJ.out ?s5 mR.out ?_);(case s1=>rfl);(case s2=>rfl);(case s3=>rfl);(case s4=>rfl);(case s5=>exact kL.out);rw[agi];refine(show W5=_ from Ur.out)▸?_;rw[←HgW.out]);have HT:=aa (fun (W:World) (h1:DA W w1.heap.size g d) (h2:Env W)=>ts d Bo.out _ g W h1 h2);rw[←HtB.out] at HT;have HRT:=aa (fun (W:World) (h1:KR W w3.heap.size w3.heap.size kv d.keys)=>GP d Qu.out kv w3.heap.size w3.heap.size W h1);rw[←HtB.out,←oX.out] at HRT;have HF:=aa (fun (W:World) (h1:DA W w1.heap.size g d)=>DM d Bo.out _ g W h1);rw[←HfB.out] at HF;have HRF:=aa (fun W=>Lm d Qu.out kv W);rw[←HfB.out,←oX.out] at HRF;obtain⟨rb,So⟩:=ab (mY d);have HRg:=aa (fun (W:World) (h1:DA W w1.heap.size g d)=>xo d Bo.out _ g W h1);have Tz:=aa (fun (W:World) (h1:KR W w3.heap.size w3.heap.size kv d.keys)=>Eb d kv w3.heap.size w3.heap.size W h1 (fun k hk=>(Bo.out.keys k hk).top) Bo.out.num);rw[←So] at HRg;rw[←So,←oX.out] at Tz;clear So;refine(HT.out W5 HD5.out (HE.out.below Ed.out)).mono ?_;rintro e w6 ⟨rfl,fv⟩;have Dz:=aa (Ed.out.trans (fv.mono Ed.out.size));have HK6:=aa (HK5.out.below fv);have HD6:=aa (HD5.out.below fv);have G6:=aa ((fv.block gW (aJ G5.out)).trans G5.out);clear fv HK5 HD5 G5 Ur HgW Ed;go_wp2_with fail;refine an [(0,0),(1,1),(2,2),(3,0),(4,0),(5,0),(7,1),(6,2),(8,2),(9,0),(10,0),(11,0),(12,0),(14,1),(13,2),(15,2),(16,0),(17,0)] 18 bW (by kernel_rfl) (by intro c a d v w h;cases d<;>exact h) ?_
 repeat ((first|refine ag rfl fun K hK=>?_|refine af rfl fun K hK=>?_);go_simp;(first|refine hK _ ?_|(simp only[IntWalk.iteOmega];go_simp;refine hK _ ?_)|(go_bits;go_simp;refine hK _ ?_));clear hK K;try go_bits)
 refine aX rfl rfl 30 (.tmp 5) rfl gW rfl 30 cs (0,0) _ G6.out Tryz.underlying30 rfl fJ.out ?_;have ZP:Below w6.heap.size w6 w6.drew:=(af5 _ _).drew;refine ae rfl rfl (fun K hK=>?_);go_wp2_with fail;refine(HRT.out _ (HK6.out.below ZP)).mono ?_;rintro e w7 ⟨rfl,kR⟩;have hB7:Below w6.heap.size w6 w7:=ZP.trans kR;have HK7:=aa (HK6.out.below hB7);have HD7:=aa (HD6.out.below hB7);have G7:=aa ((hB7.block gW (aJ G6.out)).trans G6.out);have HX7:=aa (aj kR);have Us:=aa (Dz.out.trans (hB7.mono Dz.out.size));clear kR hB7 ZP;go_wp2_with fail;refine⟨.inr HX7.out,?_⟩;refine sj (.tmp 32) (.tmp 34) 9 _ tB tB true rfl rfl rfl rfl rfl Tryz.underlying9 htt ?_;refine(show ay _ _ _ _ _ _ (Act.put _ (some 35) (.bool false)) _ from ?_)
 conv in (Act.put _ (some 35) _)=>simp[Act.put]
 repeat ((first|refine ag rfl fun K hK=>?_|refine af rfl fun K hK=>?_);go_simp;(first|refine hK _ ?_|(simp only[IntWalk.iteOmega];go_simp;refine hK _ ?_)|(go_bits;go_simp;refine hK _ ?_));clear hK K;try go_bits)
 refine jx rfl (by rfl) 30 (.tmp 5) rfl gW rfl 30 cs (0,0) _ G7.out Tryz.underlying30 rfl fJ.out ?_;refine eW rfl (by rfl) (fun K hK=>?_);go_wp2_with fail;refine(HF.out _ HD7.out).mono ?_;rintro e w8 ⟨rfl,eR⟩;have HK8:=aa (HK7.out.below eR);have HD8:=aa (HD7.out.below eR);have G8:=aa ((eR.block gW (aJ G7.out)).trans G7.out);have HX8:=aa (aj eR);have Hb8:=aa (Us.out.trans (eR.mono Us.out.size));clear eR;go_wp2_with fail;refine⟨.inr HX8.out,?_⟩;refine eW rfl (by rfl) (fun K hK=>?_);go_wp2_with fail;refine(HRF.out _).mono ?_;rintro e w9 ⟨rfl,kC⟩;have HK9:=aa (HK8.out.below kC);have HD9:=aa (HD8.out.below kC);have G9:=aa ((kC.block gW (aJ G8.out)).trans G8.out);have HX9:=aa (aj kC);have FD:=aa (Hb8.out.trans (kC.mono Hb8.out.size));clear kC;go_wp2_with fail;refine⟨.inr HX9.out,?_⟩;refine sj (.tmp 38) (.tmp 40) 9 _ fB fB true rfl (by rfl) rfl rfl rfl Tryz.underlying9 hff ?_;refine(show ay _ _ _ _ _ _ (Act.put _ (some 41) (.bool false)) _ from ?_)
 conv in (Act.put _ (some 41) _)=>simp[Act.put]
 repeat ((first|refine ag rfl fun K hK=>?_|refine af rfl fun K hK=>?_);go_simp;(first|refine hK _ ?_|(simp only[IntWalk.iteOmega];go_simp;refine hK _ ?_)|(go_bits;go_simp;refine hK _ ?_));clear hK K;try go_bits)
 refine jx rfl (by rfl) 30 (.tmp 5) rfl gW rfl 30 cs (0,0) _ G9.out Tryz.underlying30 rfl fJ.out ?_;refine eW rfl (by rfl) (fun K hK=>?_);go_wp2_with fail;refine(HRg.out _ HD9.out).mono ?_;rintro e wm ⟨rfl,ta⟩;have Ut:=aa (HK9.out.below ta);have ab5:=aa (aj ta);have ZQ:=aa (FD.out.trans (ta.mono FD.out.size));clear ta;go_wp2_with fail;refine⟨.inr ab5.out,?_⟩;refine eW rfl (by rfl) (fun K hK=>?_);go_wp2_with fail;refine(Tz.out _ Ut.out).mono ?_;rintro e w11 ⟨rfl,ZR⟩;have ab6:=aa (aj ZR);have ZS:=aa (ZQ.out.trans (ZR.mono ZQ.out.size));clear ZR;go_wp2_with fail;refine⟨.inr ab6.out,?_⟩
 repeat ((first|refine ag rfl fun K hK=>?_|refine af rfl fun K hK=>?_);go_simp;(first|refine hK _ ?_|(simp only[IntWalk.iteOmega];go_simp;refine hK _ ?_)|(go_bits;go_simp;refine hK _ ?_));clear hK K;try go_bits)
 refine ak ?_;clear HK6 HD6 G6 HK7 HD7 G7 HK8 HD8 G8 HK9 HD9 G9 Ut HX7 HX8 HX9 ab5 ab6 HRT HF HRF HRg Tz Dz Us Hb8 FD ZQ;go_wp2_with fail;refine(HPc.out tB (by omega) w11 (HE.out.below ZS.out)).mono ?_;rintro e w12 ⟨h12,CU⟩;rw[Htd.out] at h12;have Qv:=aa (ZS.out.trans (CU.mono ZS.out.size));clear CU HPc
 by_cases h4:4000<N
 · have hd4:decide ((4000:Int)<(N:Int))=true:=af9 (by omega)
   rcases h12 with ⟨n2,_,_,_,rfl⟩|⟨d2,g2,_,rfl,_⟩
   · go_wp2_with fail
     go_ret;exact⟨rfl,Qv.out⟩
   go_wp2_with fail;go_ret;exact⟨rfl,Qv.out⟩
 have hd4:decide ((4000:Int)<(N:Int))=false:=af8 (by omega);have hpt:=D1 Qu.out (by rw[←HNl.out];omega);rw[hpt] at h12;rcases h12 with ⟨n2,Cr,_,hx,_⟩|⟨d2,g2,hx,rfl,hD2⟩
 · injection hx with h1 h2
   cases h2
 injection hx with h1 h2;injection h2 with h2;subst h2;have qq:=aa (ts d Bo.out _ g2 w12 hD2 (HE.out.below Qv.out));rw[←HtB.out] at qq;clear hD2 hpt;go_wp2_with fail;refine qq.out.mono ?_;rintro e w13 ⟨rfl,rf⟩;have aef:=aa (Qv.out.trans (rf.mono Qv.out.size));clear rf qq;go_wp2_with fail;go_ret;exact⟨rfl,aef.out⟩
end Go.Proofs.YtcjioogololnoaaGreatDoor
namespace Go.Proofs.YtcjioogololnoaaGreatDoor
open Go
def uP (l:List UInt8):Nat:=l.foldl (fun n c=>if n<2147483648 then 10*n+(c.toNat-48) else n) 0
theorem zI (l:List UInt8) (c:UInt8):uP (l++[c])=if uP l<2147483648 then 10*uP l+(c.toNat-48) else uP l:=by unfold uP;rw[List.foldl_append];rfl
theorem Eg (l:List UInt8):(uP l<2147483648∧jS l=uP l)∨(2147483648≤uP l∧jS l=2147483648∧uP l<68719476736):=by
 induction hn:l.length generalizing l with
 |zero=>
  obtain rfl:l=[]:=List.length_eq_zero_iff.1 hn;exact .inl ⟨by decide,rfl⟩
 |succ n ih=>
  rcases List.eq_nil_or_concat l with rfl|⟨l',c,rfl⟩
  · simp at hn
  rw[List.concat_eq_append] at hn⊢;have hl:l'.length=n:=by simpa using hn
  have h:=ih l' hl;have hc:=c.toNat_lt;rw[zI,l6];rcases h with ⟨h1,h2⟩|⟨h1,h2,h3⟩
  · rw[if_pos h1,h2]
    omega
  rw[if_neg (by omega),h2];omega
def tD (S:List UInt8):List UInt8:=S.takeWhile ek
def MR (S:List UInt8):List UInt8:=S.dropWhile ek
theorem sn (S:List UInt8):tD S++MR S=S:=List.takeWhile_append_dropWhile
theorem so (S:List UInt8):∀c∈tD S,ek c=true:=fun c hc=>by
 induction S with
 |nil=>simp[tD] at hc
 |cons x S ih=>
  rw[tD,List.takeWhile_cons] at hc;split at hc
  · rcases List.mem_cons.1 hc with rfl|hc
    · assumption
    exact ih hc
  simp at hc
theorem Eh (S:List UInt8) (c:UInt8) (r:List UInt8) (h:MR S=c::r):ek c=false:=by
 induction S with
 |nil=>simp[MR] at h
 |cons x S ih=>
  rw[MR,List.dropWhile_cons] at h;split at h
  · exact ih h
  next hx=>
  injection h with h1 _;rw[←h1];simpa using hx
theorem qQ {l:List UInt8} {c:UInt8} (hc:c∈l) (hd:ek c=false):(bH l).1=3:=by
 unfold bH;split
 · rfl
 rw[if_neg];intro h;have:=List.all_eq_true.1 h c hc;rw[hd] at this
 cases this
theorem BF {c:UInt8} (h:ek c=true):cc c=false:=by
 have:∀x:Fin 256,ek (UInt8.ofNat x.val)=true→cc (UInt8.ofNat x.val)=false:=by decide+kernel
 have h2:=this ⟨c.toNat,c.toNat_lt⟩;simp only[UInt8.ofNat_toNat] at h2;exact h2 h
def pN (D:List UInt8) (add:Nat):Nat×Nat:=if D=[]∨(D.head?=some 48∧1<D.length) then (3,0) else if jS D<2147483648 then (0,jS D+add) else (2,0)
theorem sp (D:List UInt8) (h:∀c∈D,ek c=true):bH D=pN D 0:=by
 unfold bH pN;split
 · rfl
 rw[if_pos (List.all_eq_true.2 h)];rfl
theorem Ei (S:List UInt8) (h:MR S=[]):a8 S=pN (tD S) 0:=by
 have e:tD S=S:=by have:=sn S;rw[h,List.append_nil] at this;exact this
 unfold a8;rw[if_neg]
 · have h1:=sp (tD S) (so S)
   rw[e] at h1⊢;exact h1
 rintro⟨dt,hl⟩
 have hm:S.getLastD 0∈S:=by
  rw[List.getLastD_eq_getLast?,List.getLast?_eq_some_getLast dt];exact List.getLast_mem dt
 rw[BF (so S _ (by rw[e];exact hm))] at hl
 cases hl
theorem nc (S:List UInt8) (c:UInt8) (h:MR S=[c]) (hc:cc c=true):a8 S=pN (tD S) 2147483648:=by
 have e:S=tD S++[c]:=by have:=sn S;rw[h] at this;exact this.symm
 have e1:S.getLastD 0=c:=by rw[e];simp
 have e2:S.dropLast=tD S:=by
  have h3:=congrArg List.dropLast e;rw[List.dropLast_concat] at h3;exact h3
 unfold a8;rw[if_pos ⟨by rw[e];simp,by rw[e1];exact hc⟩,e2,sp _ (so S)];unfold pN;split
 · rfl
 split
 · simp
 rfl
theorem kb (S:List UInt8) (c:UInt8) (r:List UInt8) (h:MR S=c::r) (hb:cc c=false∨r≠[]):(a8 S).1≠0:=by
 have hd:=Eh S c r h;have e:S=tD S++c::r:=by have:=sn S;rw[h] at this;exact this.symm
 have hS:c∈S:=by rw[e];simp
 unfold a8;split
 · next hh=>
   have hm:c∈S.dropLast:=by
    rcases hb with hb|hb
    · cases r with
      |nil=>
       rw[e] at hh;simp[hb] at hh
      |cons x r=>rw[e,List.dropLast_append_of_ne_nil (by simp)];simp
    rw[e,List.dropLast_append_of_ne_nil (by simp),List.dropLast_cons_of_ne_nil hb];simp
   rw[if_neg (by rw[qQ hm hd];decide),qQ hm hd];decide
 rw[qQ hS hd];decide
theorem vg {S D:List UInt8} {add n m:Nat} (h:a8 S=pN D add) (hb:¬(D=[]∨(D.head?=some 48∧1<D.length))) (hn:(n<2147483648∧jS D=n)∨(2147483648≤n∧jS D=2147483648∧n<68719476736)) (FF:n<2147483648) (hm:m=n):a8 S=(0,m+add):=by
 rw[h,pN,if_neg hb];rcases hn with ⟨_,h2⟩|⟨h1,_,_⟩
 · rw[if_pos (by rw[h2];exact FF),h2,hm]
 omega
theorem nf {S D:List UInt8} {add n:Nat} (h:a8 S=pN D add) (hb:¬(D=[]∨(D.head?=some 48∧1<D.length))) (hn:(n<2147483648∧jS D=n)∨(2147483648≤n∧jS D=2147483648∧n<68719476736)) (FF:¬n<2147483648):(a8 S).1≠0:=by
 rw[h,pN,if_neg hb];rcases hn with ⟨h1,_⟩|⟨_,h2,_⟩
 · omega
 rw[if_neg (by rw[h2];decide)];decide
theorem Ej {S D:List UInt8} {add:Nat} (h:a8 S=pN D add) (hb:D=[]∨(D.head?=some 48∧1<D.length)):(a8 S).1≠0:=by
 rw[h,pN,if_pos hb];decide
def mD (priv r h:Bool) (ps:List (List UInt8)):Option (List Nat×Bool×Bool):=
 if 20<ps.length then none else match bf ps with
  |none=>none
  |some ns=>if (h||ns.any (fun n=>decide (2147483648≤n)))&&!priv then none else some (ns,r,h)
def oO (priv:Bool) (rest:List (List UInt8)):Option (List Nat×Bool×Bool):=if rest=[] then some ([],false,false) else bS priv rest
theorem BG (S:List UInt8) (p0:List UInt8) (rest:List (List UInt8)) (h:aK 47 S=p0::rest):
 ij S=if (cM p0).1=0 then (oO (cM p0).2.priv rest).map (fun t=>⟨[],(cM p0).2,t.1,t.2.1,t.2.2⟩) else none:=by
 rcases vT S 47 with hf|⟨p,r,e,hp⟩
 · have h1:=jr 47 S hf
   rw[h] at h1;injection h1 with h1 h2;rw[ij,za S 47 hf];simp only[];rw[h1,h2,oO,if_pos rfl];rfl
 have h1:=iz 47 p r hp;rw[←e,h] at h1;injection h1 with h1 h2;have dt:rest≠[]:=by rw[h2];exact o7 47 r
 rw[ij,e,IH p r 47 hp];simp only[];rw[h1,oO,if_neg dt,h2];rfl
theorem BH (l:List (List UInt8)) (p:List UInt8) (ns:List Nat) (h:bf l=some ns) (hp:(a8 p).1=0):bf (l++[p])=some (ns++[(a8 p).2]):=by
 induction l generalizing ns with
 |nil=>
  obtain rfl:[]=ns:=by simpa [bf] using h
  simp[bf,hp]
 |cons a l ih=>
  rw[bf] at h;split at h
  · next ha=>
    cases hl:bf l with
    |none=>rw[hl] at h;simp at h
    |some ms=>
     rw[hl] at h;simp only[Option.map_some,Option.some.injEq] at h;rw[agw,bf,if_pos ha,ih ms hl,←h];rfl
  cases h
theorem uw (l:List (List UInt8)) (p:List UInt8) (hm:p∈l) (hp:(a8 p).1≠0):bf l=none:=by
 induction l with
 |nil=>cases hm
 |cons a l ih=>
  rw[bf];rcases List.mem_cons.1 hm with rfl|hm
  · rw[if_neg hp]
  split
  · rw[ih hm];rfl
  rfl
theorem Ek (l:List (List UInt8)) (ns:List Nat) (h:bf l=some ns):ns.length=l.length∧∀n∈ns,n<4294967296:=by
 induction l generalizing ns with
 |nil=>
  obtain rfl:[]=ns:=by simpa [bf] using h
  simp
 |cons a l ih=>
  rw[bf] at h;split at h
  · cases hl:bf l with
    |none=>rw[hl] at h;simp at h
    |some ms=>
     rw[hl] at h;simp only[Option.map_some,Option.some.injEq] at h;have h2:=ih ms hl;rw[←h];refine⟨by simp[h2.1],fun n hn=>?_⟩;rcases List.mem_cons.1 hn with rfl|hn
     · exact vE a
     exact h2.2 n hn
  cases h
def sq (l:List UInt8):Prop:=l≠[42]∧l≠[42,39]∧l≠[42,104]∧l≠[42,72]
theorem LV {l:List UInt8} (h:sq l):eH l=some (false,false)∨(eH l=none∧(a8 l).1≠0):=by
 unfold eH;split
 · next h42=>
   rw[if_neg h.1,if_neg]
   · refine .inr ⟨rfl,?_⟩
     cases l with
     |nil=>cases h42
     |cons c r=>
      obtain rfl:c=42:=by simpa using h42
      have ha:MR (42::r)=42::r:=by rw[MR,List.dropWhile_cons,if_neg (by decide)]
      exact kb _ 42 r ha (.inl (by decide))
   rintro⟨h2,h3⟩
   match l,h2,h42 with
   |[a,b],_,h42=>
    obtain rfl:a=42:=by simpa using h42
    have h4:cc b=true:=by simpa using h3
    simp only[cc,Bool.or_eq_true,agy] at h4;rcases h4 with rfl|rfl|rfl
    · exact h.2.1 rfl
    · exact h.2.2.1 rfl
    exact h.2.2.2 rfl
 exact .inl rfl
theorem QC (priv:Bool) (rest:List (List UInt8)) (dt:rest≠[]) (h:sq (rest.getLastD [])):oO priv rest=mD priv false false rest:=by
 have hm:rest.getLastD []∈rest:=by
  rw[List.getLastD_eq_getLast?,List.getLast?_eq_some_getLast dt];exact List.getLast_mem dt
 rw[oO,if_neg dt,bS,mD];rcases LV h with h1|⟨h1,h2⟩
 · rw[h1]
   rfl
 rw[h1,uw rest _ hm h2];simp
theorem xQ (priv h:Bool) (rest:List (List UInt8)) (dt:rest≠[]) (hl:eH (rest.getLastD [])=some (true,h)):oO priv rest=mD priv true h rest.dropLast:=by
 rw[oO,if_neg dt,bS,hl];rfl
theorem GV (priv:Bool):oO priv []=mD priv false false []:=by
 simp[oO,mD,bf]
end Go.Proofs.YtcjioogololnoaaGreatDoor

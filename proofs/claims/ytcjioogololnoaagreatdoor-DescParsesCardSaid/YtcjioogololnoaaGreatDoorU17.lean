/- Of any text: the program's descriptors and the reference's are read and written alike (DescParses). No condition. -/
import Derived.Test.YtcjioogololnoaaGreatDoorU1
import Derived.Test.YtcjioogololnoaaGreatDoorU14
import Derived.Test.YtcjioogololnoaaGreatDoorU16
set_option maxRecDepth 1000000
set_option maxHeartbeats 16000000
set_option linter.unusedVariables false
set_option linter.unusedSimpArgs false
namespace Go.Proofs.YtcjioogololnoaaGreatDoor
open Go Go.RowKit Go.Shelf
def eS (k:DKey) (pv sv:Value):List Value:=pv::(ba k.top++[sv,.bool k.ranged,.bool k.hard])
theorem aT {k:DKey} (h:k.top.Ok) (pv sv:Value):(eS k pv sv).length=75:=by simp[eS,aI h]
theorem ot {k:DKey} (h:k.top.Ok) (pv sv:Value):(eS k pv sv)[72]?=some sv:=by
 rw[eS,agG,agv (by rw[aI h];exact af2 _),aI h];rfl
theorem mS {k:DKey} (h:k.top.Ok) (pv sv:Value):(eS k pv sv)[73]?=some (.bool k.ranged):=by
 rw[eS,agG,agv (by rw[aI h];omega),aI h];rfl
theorem kD {k:DKey} (h:k.top.Ok) (pv sv:Value):(eS k pv sv)[74]?=some (.bool k.hard):=by
 rw[eS,agG,agv (by rw[aI h];omega),aI h];rfl
theorem IU {k:DKey} (h:k.top.Ok) (pv sv:Value) (j:Nat) (hj:j<71):(eS k pv sv)[1+j]?=(ba k.top)[j]?:=by
 rw[eS,Nat.add_comm,agG,agK (by rw[aI h];exact hj)]
theorem AV (pv:Value) (K r:List Value) (i:Nat) (v:Value) (h:K.length=71):(pv::(K++r)).toArray.setIfInBounds (72+i) v=(pv::(K++r.set i v)).toArray:=by
 rw[List.setIfInBounds_toArray];congr 1;rw[show 72+i=(71+i)+1 by omega,List.set_cons_succ,List.set_append,if_neg (by omega),h,show 71+i-71=i by omega]
theorem o8 {k:DKey} (h:k.top.Ok) (pv sv:Value) (u:Value):(eS k pv sv).toArray.setIfInBounds 72 u=(eS k pv u).toArray:=AV pv _ _ 0 u (aI h)
theorem pa {k:DKey} (h:k.top.Ok) (pv sv:Value) (b:Bool):(eS k pv sv).toArray.setIfInBounds 73 (.bool b)=(eS { k with ranged:=b } pv sv).toArray:=AV pv _ _ 1 _ (aI h)
theorem pb {k:DKey} (h:k.top.Ok) (pv sv:Value) (b:Bool):(eS k pv sv).toArray.setIfInBounds 74 (.bool b)=(eS { k with hard:=b } pv sv).toArray:=AV pv _ _ 2 _ (aI h)
def aV:Value:=.slice none 0 0
def dm (top:HKey):DKey:=⟨[],top,[],false,false⟩
theorem ym (l:List UInt8) (c:UInt8):Lib.hasPrefix l [c]=decide (l.head?=some c):=by
 cases l with
 |nil=>rfl
 |cons x r=>
  simp only[Lib.hasPrefix,List.isPrefixOf,List.head?_cons,Option.some.injEq,Bool.and_true]
  by_cases h:c=x
  · subst h;simp
  have h':¬x=c:=fun e=>h e.symm
  simp[h,h']
theorem wJ (c:UInt8):Lib.contains jU [c]=cc c:=by
 unfold Lib.contains jU cc;simp only[Lib.index,List.isPrefixOf,Bool.and_true,List.isEmpty_cons]
 by_cases h1:c=39
 · subst h1;decide
 by_cases h2:c=104
 · subst h2;decide
 by_cases h3:c=72
 · subst h3;decide
 simp[h1,h2,h3]
theorem rR (c:UInt8):∀l:List (List UInt8),l≠[]→(Lib.join l [c]).length+1=Lib.lens l+l.length
 |[],h=>absurd rfl h
 |[x],_=>by simp[Lib.join_one,Lib.lens]
 |x::y::r,_=>by
  have ih:=rR c (y::r) (by simp);rw[Lib.join_cons] at ih⊢;simp only[Lib.joinTail,List.map_cons,List.flatten_cons,agc,agm,List.length_nil,Lib.lens,List.sum_cons] at ih⊢;omega
theorem mU (c:UInt8) (l:List (List UInt8)) (k:Nat):(Lib.join (l.take k) [c]).length≤(Lib.join l [c]).length:=by
 by_cases h0:l.take k=[]
 · rw[h0];simp[Lib.join_nil]
 have hl:l≠[]:=fun e=>h0 (by simp[e])
 have h1:=rR c _ h0;have h2:=rR c l hl;have h3:=Lib.lens_take_le l k;rw[agj] at h1;omega
theorem AW (priv:Bool) (ps qs:List (List UInt8)) (r h:Bool) (hl:eH (ps.getLastD [])=some (r,h)) (hq:qs=if r then ps.dropLast else ps):
 bS priv ps=if 20<qs.length then none else match bf qs with|none=>none|some ns=>if (h||eN ns)&&!priv then none else some (ns,r,h):=by
 unfold bS;rw[hl,hq];rfl
theorem zj (priv:Bool) (ps:List (List UInt8)) (hl:eH (ps.getLastD [])=none):bS priv ps=none:=by
 unfold bS;rw[hl]
theorem OJ {W:World} {g:Nat} {cs:List Value} {t:TypeId} {fr:Nat×Nat} (h:W.heap[g]?=some (.cells cs.toArray t fr)):Sl W W.heap.size (some ⟨g,0,none⟩) cs:=fun _=>⟨g,0,rfl,(af3.1 h).1,fun j hj=>by
 rw[Nat.zero_add,agb _ _ _ _ _ _ h,agr,age hj]⟩
theorem gQ {W:World} {g:Nat} {k:DKey} {pv sv:Value} (h:W.heap[g]?=some (.cells (eS k pv sv).toArray 62 (0,0))) (j:Nat):W.cell? ⟨g,j,none⟩=(eS k pv sv)[j]?:=by
 rw[agb _ _ _ _ _ _ h];simp
theorem mh {W:World} {g:Nat} {k:DKey} (ht:k.top.Ok) {pv sv:Value} (h:W.heap[g]?=some (.cells (eS k pv sv).toArray 62 (0,0))):W.rangeAt g 1 (ba k.top):=fun j v hv=>by
 have hj:j<71:=by have:=(agI.1 hv).1;rwa [aI ht] at this
 rw[gQ h,IU ht _ _ _ hj];exact hv
theorem zk (w0:World) (hE:Env w0) (g:Nat) (Kt:w0.heap.size≤g) (s:ByteArray) (hsz:s.size≤4096) (top:HKey) (ht:top.Ok) (w:World) (hb:Below w0.heap.size w0 w)
 (hg:w.heap[g]?=some (.cells (eS (dm top) aV aV).toArray 62 (0,0))):
 Calls Tryz.prog 69 #[.pointer (some ⟨g,0,none⟩),.string s] w fun e W'=>
  ((e=.panicked IN∧bS top.priv (aK 47 s.data.toList)=none)∨
   (e=.returned (.tuple #[])∧∃ns r h A c,bS top.priv (aK 47 s.data.toList)=some (ns,r,h)∧W'.heap[g]?=some (.cells (eS ⟨[],top,ns,r,h⟩ aV (.slice A ns.length c)).toArray 62 (0,0))∧Sl W' W'.heap.size A (cL ns)∧(∀a,A=some a→w0.heap.size≤a.block)))∧Below w0.heap.size w0 W':=by
 have pF:=sX s 47 (by omega) w (hE.below hb);obtain⟨ps,pG⟩:=ab (aK 47 s.data.toList);rw[←pG] at pF⊢
 have tH:∀p∈ps,p.length≤4096:=fun p hp=>by
  have:=mb 47 s.data.toList p (by rw[←pG];exact hp);simp at this;omega
 have yI:∀p∈ps,∀x∈p,x≠47:=by rw[pG];exact oe 47 _
 have dt:ps≠[]:=by rw[pG];exact o7 _ _
 have abg:(Lib.join ps [47]).length≤4096:=by rw[pG,tR];simpa using hsz
 obtain⟨n,hn⟩:=ab ps.length;rw[←hn] at pF;have zW:0<n:=by rw[hn];exact List.length_pos_iff.2 dt
 have afb:n≤4097:=by
  have:=mP 47 s.data.toList;rw[hn,pG];simp at this;omega
 obtain⟨m,hm⟩:∃m,n=m+1:=⟨n-1,by omega⟩;have hmp:m<ps.length:=by omega
 obtain⟨last,ni⟩:∃last,last=ps[m]:=⟨_,rfl⟩
 have hlD:ps.getLastD []=last:=by
  rw[List.getLastD_eq_getLast?,List.getLast?_eq_getElem?,←hn,hm,Nat.add_sub_cancel,age hmp,ni];rfl
 have XC:g<w.heap.size:=(af3.1 hg).1;have aF:=af4 w (.cells (ST ps).toArray 9);obtain⟨W1,kK⟩:=ab (w.alloc (.cells (ST ps).toArray 9));rw[←kK] at aF;obtain⟨G,hG⟩:=ab w.heap.size;rw[←hG] at aF pF XC;have aZ:Below w0.heap.size w0 W1:=by rw[kK];exact hb.alloc hb.size _
 have gq:W1.heap.size=G+1:=by rw[kK,hG];simp
 have jd:W1.heap[g]?=some (.cells (eS (dm top) aV aV).toArray 62 (0,0)):=by
  rw[kK,Lib.alloc_old w _ g (by omega)];exact hg
 have hS:Sl W1 (G+1) (some ⟨G,0,none⟩) (ST ps):=fun _=>⟨G,0,rfl,by omega,fun j hj=>by
  rw[Nat.zero_add,agb _ _ _ _ _ _ aF,agr,age hj]⟩
 have db:W1.cell? ⟨G,m,none⟩=some (.string ⟨last.toArray⟩):=by
  rw[agb _ _ _ _ _ _ aF,agr,age (by simpa using hmp),js,ni]
 have hmi:((n:Int)-1)=(m:Int):=by omega
 have hmn:m<n:=by omega
 have hlm:last∈ps:=by rw[ni];exact agl _
 obtain⟨L,hL⟩:∃L:ByteArray,L=⟨last.toArray⟩:=⟨_,rfl⟩;rw[←hL] at db;have ld:=aa aF;have uE:=aa pF;have Hn:=aa hn;have Hm:=aa hm;have RA:=aa hlD;have Kz:=aa kK;have HS:=aa hS;have vx:=aa jd;have vH:=aa gq;have HL:=aa hL;have OK:=aa yI;have Yu:=aa abg;have Hlm:=aa hlm;have HE:=aa hE;have sH:=aa (Tryz.strings_HasPrefix L ⟨#[42]⟩)
 clear pF pG tH hn hm ni hlD aF kK hG hS jd gq hL yI abg hlm dt hg hE;go_enter Tryz.func69,Tryz.ntmps69;go_wp2_with fail;refine(uE.out).mono ?_;rintro e w1 ⟨rfl,gu⟩;rw[←Kz.out] at gu;subst gu;clear uE Kz hb;go_wp2_with fail;refine(sH.out _).mono ?_;rintro e w' ⟨rfl,bD⟩;rw[bD];clear bD sH;have OL:Hid (L.data.toList=last):=aa (by rw[HL.out]);rw[OL.out,ym];have Fv:Hid (∀ww,Calls Tryz.prog 78 #[.agg (ba top).toArray] ww fun e W'=>e=.returned (.bool top.priv)∧Below ww.heap.size ww W'):=aa fun ww=>la top ht ww
 have IK:=aa (show (Tryz.prog.info? 59).map (·.size)=some (ba top).length by rw[aI ht];kernel_rfl)
 by_cases cW:last.head?=some 42
 · rw[af9 cW]
   by_cases hB:last=[42]
   · have oY:eH last=some (true,false):=by rw[eH,if_pos cW,if_pos hB]
     have hLB:(L.toList==[42])=true:=by rw[agt,OL.out,hB];rfl
     have hLs:L.size=1:=by
      have h1:=congrArg List.length (OL.out.trans hB);simpa using h1
     clear db hB;have HT:=aa (AW top.priv ps (ps.take m) true false (by rw[RA.out];exact oY) (by rw[if_pos rfl,List.dropLast_eq_take,←Hn.out,Hm.out,Nat.add_sub_cancel]))
     have RW:Hid (((w1.setCell ⟨g,73,none⟩ (.bool true)).setCell ⟨g,74,none⟩ (.bool false)).heap[g]?=some (.cells (eS ⟨[],top,[],true,false⟩ aV aV).toArray 62 (0,0))):=aa (by
      have h1:=heap_setCell_same w1 g 73 _ _ (Value.bool true) vx.out;rw[pa (k:=dm top) ht] at h1;have h2:=heap_setCell_same _ g 74 _ _ (Value.bool false) h1;rw[pb (k:={ dm top with ranged:=true }) ht] at h2;exact h2)
     have RE:Hid (Sl ((w1.setCell ⟨g,73,none⟩ (.bool true)).setCell ⟨g,74,none⟩ (.bool false)) ((w1.setCell ⟨g,73,none⟩ (.bool true)).setCell ⟨g,74,none⟩ (.bool false)).heap.size (some ⟨G,0,none⟩) (ST (ps.take m))):=aa (by
      rw[II];refine(OJ (cs:=ST ps) (g:=G) (t:=9) (fr:=(0,0)) ?_).take m;rw[ago _ _ _ _ (show G≠g by omega),ago _ _ _ _ (show G≠g by omega)];exact ld.out)
     have qw:Below w0.heap.size w0 ((w1.setCell ⟨g,73,none⟩ (.bool true)).setCell ⟨g,74,none⟩ (.bool false)):=(aZ.setCell (p:=⟨g,73,none⟩) Kt _).setCell (p:=⟨g,74,none⟩) Kt _;have Hq:Hid (m=(ps.take m).length):=aa (by rw[agj];have:=Hn.out;omega);have p4:∀p∈ps.take m,p∈ps:=fun p hp=>List.mem_of_mem_take hp
     have yo:(Lib.join (ps.take m) [47]).length≤(Lib.join ps [47]).length:=mU 47 ps m;have c73:w1.cell? ⟨g,73,none⟩=some (.bool false):=(gQ vx.out 73).trans (mS (k:=dm top) ht _ _);have c74:w1.cell? ⟨g,74,none⟩=some (.bool false):=(gQ vx.out 74).trans (kD (k:=dm top) ht _ _);have c72:w1.cell? ⟨g,72,none⟩=some (.slice none 0 0):=(gQ vx.out 72).trans (ot (k:=dm top) ht _ _);have f73:w1.frozen? ⟨g,73,none⟩=false:=agF _ _ _ _ _ vx.out;have f74:w1.frozen? ⟨g,74,none⟩=false:=agF _ _ _ _ _ vx.out;obtain⟨qs,Yv⟩:=ab (ps.take m);rw[←Yv] at HT RE Hq p4 yo;clear oY cW RA HS OL HL ld Yv
     by_cases hq20:m≤20
     · have VD:decide ((m:Int)≤20)=true:=af9 (by omega)
       by_cases BN:m=0
       · have OM:qs=[]:=List.eq_nil_of_length_eq_zero (by rw[←Hq.out];exact BN)
         have qq:Hid (bS top.priv ps=if (false||eN [])&&!top.priv then none else some ([],true,false)):=aa (by rw[HT.out,OM];rfl);have Yw:Hid (Sl ((w1.setCell ⟨g,73,none⟩ (.bool true)).setCell ⟨g,74,none⟩ (.bool false)) ((w1.setCell ⟨g,73,none⟩ (.bool true)).setCell ⟨g,74,none⟩ (.bool false)).heap.size none (cL [])):=aa Sl.nil;subst BN;clear hq20 OM HT VD;have RG:=aa (mh (k:=⟨[],top,[],true,false⟩) ht RW.out);have RH:=aa (jt none 0 [] (by simp) ((w1.setCell ⟨g,73,none⟩ (.bool true)).setCell ⟨g,74,none⟩ (.bool false)) Yw.out);obtain⟨X,hX⟩:∃X,X=eN []:=⟨_,rfl⟩;rw[←hX] at RH;have HX:=aa hX.symm;clear hX;go_wp2_with (first|(go_at_call 38;(with_reducible refine(bg _).mono ?_);rintro e w' ⟨rfl,rfl⟩));refine RH.out.mono ?_;rintro e w' ⟨rfl,rfl⟩
         cases X with
         |true=>
          go_wp2_with ((with_reducible refine bj ?c1 59 (.tmp 87) ?c2 g 1 ?c3 (ba top) _ RG.out Tryz.underlying59 ?c4 IK.out ?_);(case c2=>rfl);(case c3=>rfl);(case c4=>rfl);(case c1=>kernel_rfl));refine(Fv.out _).mono ?_;rintro e w8 ⟨rfl,eR⟩;have kS:=qw.trans (eR.mono qw.size);obtain⟨p,hp⟩:=ab top.priv;have Hp:=aa hp;rw[←hp];have GR:=aa ((eR.block g (af3.1 RW.out).1).trans RW.out);have GS:=aa ((Yw.out.below eR).mono eR.size);clear hp eR
          cases p with
          |false=>
           go_wp2_with (go_at_call 38;(with_reducible refine(bR _).mono ?_);rintro e w' ⟨rfl,rfl⟩);exact⟨rfl,.inl ⟨rfl,by rw[qq.out,HX.out,←Hp.out];rfl⟩,kS⟩
          |true=>
           go_wp2_with (go_at_call 38;(with_reducible refine(bg _).mono ?_);rintro e w' ⟨rfl,rfl⟩);go_end0;exact⟨.inr ⟨rfl,[],true,false,none,0,by rw[qq.out,HX.out,←Hp.out];rfl,GR.out,GS.out,fun _ h=>by cases h⟩,kS⟩
         |false=>
          go_wp2_with (go_at_call 38;(with_reducible refine(bg _).mono ?_);rintro e w' ⟨rfl,rfl⟩);go_end0;exact⟨.inr ⟨rfl,[],true,false,none,0,by rw[qq.out,HX.out];rfl,RW.out,Yw.out,fun _ h=>by cases h⟩,qw⟩
       have VE:0<m:=by omega
       obtain⟨p0,pr,qx⟩:∃p0 pr,qs=p0::pr:=by
        cases hh:qs with
        |nil=>have:=Hq.out;rw[hh] at this;simp at this;omega
        |cons a b=>exact⟨a,b,rfl⟩
       obtain⟨P0,zb⟩:∃P0:ByteArray,P0=⟨p0.toArray⟩:=⟨_,rfl⟩
       have c0:((w1.setCell ⟨g,73,none⟩ (.bool true)).setCell ⟨g,74,none⟩ (.bool false)).cell? ⟨G,0,none⟩=some (.string P0):=by
        obtain⟨b9,o9,e9,_,ON⟩:=RE.out (by rw[ST_length,←Hq.out];exact VE);simp at e9;obtain⟨rfl,rfl⟩:=e9;have h9:=ON 0 (by rw[ST_length,←Hq.out];exact VE);rw[Nat.zero_add,js] at h9;rw[h9,zb];simp only[qx,List.getElem_cons_zero]
       have FG:=aa qx;have MC:=aa zb;clear qx zb BN
       by_cases hm:p0=[109]
       · have hPm:(P0.toList==[109])=true:=by
          rw[MC.out,agt];simpa using hm
         have yp:Hid (bS top.priv ps=none):=aa (by
          rw[HT.out];have cW:bf qs=none:=by rw[FG.out,hm];rfl
          rw[cW];split<;>rfl)
         clear hm HT;go_wp2_with (first|(go_at_call 38;(with_reducible refine(bg _).mono ?_);rintro e w' ⟨rfl,rfl⟩)|(go_at_call 38;(with_reducible refine(bR _).mono ?_);rintro e w' ⟨rfl,rfl⟩));exact⟨rfl,.inl ⟨rfl,yp.out⟩,qw⟩
       have hPm:(P0.toList==[109])=false:=by
        rw[MC.out,agt];simpa using hm
       obtain⟨J,hJ⟩:∃J,J=Lib.join qs [47]:=⟨_,rfl⟩;have VF:J.length≤4096:=by rw[hJ];exact agx (yo) Yu.out
       have Dq:qs≠[]:=by rw[FG.out];simp
       have IW:aK 47 J=qs:=by rw[hJ];exact iG 47 _ Dq (fun p hp=>OK.out p (p4 p hp))
       have ow:=aa (mc (some ⟨G,0,none⟩) n qs 47 ((w1.setCell ⟨g,73,none⟩ (.bool true)).setCell ⟨g,74,none⟩ (.bool false)) RE.out (by rw[←Hq.out];omega) (by rw[←hJ];omega) (by rw[←Hq.out];omega));rw[←hJ,←Hq.out] at ow
       have MD:Hid (∀X,Env X→Calls Tryz.prog 104 #[.string ⟨J.toArray⟩] X fun e W'=>∃v E,e=.returned (.tuple #[v,.int .i64 ((E:Nat):Int)])∧((E=0∧eE qs=false∧Ow W' X.heap.size 55 v (cL (jl qs)))∨(E≠0∧eE qs=true))∧Below X.heap.size X W'):=aa fun X hX=>by
        have h:=sY ⟨J.toArray⟩ (by show J.toArray.size≤4096;simpa using VF) (by simp only[];rw[IW,FG.out];exact hm) (by simp only[];rw[IW,←Hq.out];omega) X hX;simp only[IW] at h;exact h
       clear hm hJ VF Dq IW yo p4;go_wp2_with (first|(go_at_call 38;(with_reducible refine(bg _).mono ?_);rintro e w' ⟨rfl,rfl⟩));refine ow.out.mono ?_;rintro e w3 ⟨rfl,bd⟩;have de:=qw.trans (bd.mono qw.size);have pT:g<((w1.setCell ⟨g,73,none⟩ (.bool true)).setCell ⟨g,74,none⟩ (.bool false)).heap.size:=(af3.1 RW.out).1;have R3:=aa ((bd.block g pT).trans RW.out);have OO:g<w3.heap.size:=agq pT bd.size;clear bd c0 ow;go_wp2_with fail;refine(MD.out w3 (HE.out.below de)).mono ?_;rintro e w4 ⟨v,E,rfl,hEE,dn⟩;have lG:=de.trans (dn.mono de.size);have R4:=aa ((dn.block g OO).trans R3.out);clear dn R3 MD;rcases hEE with ⟨rfl,fL,ho⟩|⟨me,fL⟩
       · obtain⟨ns,uH⟩:=ab (jl qs)
         rw[←uH] at ho;have cW:bf qs=some ns:=by rw[iA,fL,uH];rfl
         have qq:Hid (bS top.priv ps=if (false||eN ns)&&!top.priv then none else some (ns,true,false)):=aa (by rw[HT.out,cW,if_neg (by rw[←Hq.out];omega)]);have OP:ns.length=m:=by rw[uH,jl,List.length_map,Hq.out]
         obtain⟨As,cS,rfl,dW,ez⟩:=ho.form;have BX:=ho;rw[U32_length];obtain⟨nl,wO⟩:=ab ns.length;have Tg:=aa wO.symm;have EI:ns.length≤4096:=by omega
         rw[←wO];have abh:w4.cell? ⟨g,72,none⟩=some aV:=(gQ R4.out 72).trans (ot ht _ _);have f72:w4.frozen? ⟨g,72,none⟩=false:=agF _ _ _ _ _ R4.out
         have tY:∀r,az (.slice As ns.length cS)=some r→(⟨g,72,none⟩:Addr).block≠r:=fun r hr e=>by
          have h1:=(BX.row r (by rw[U32_length];exact hr)).1;have h2:g=r:=e;omega
         have ME:Hid (∀a,As=some a→w0.heap.size≤a.block):=aa (fun a ha=>by
          obtain⟨A7,c7,e7,h7,_,h8⟩:=BX;injection e7 with e7 _ e9;subst e7 e9;obtain⟨g9,_,e8,kC,_⟩:=h8 (by rw[U32_length] at h7;omega);rw[e8] at ha;injection ha with ha;subst ha;exact agx de.size kC)
         have Th:Hid (Sl (w4.setCell ⟨g,72,none⟩ (.slice As nl cS)) (w4.setCell ⟨g,72,none⟩ (.slice As nl cS)).heap.size As (cL ns)):=aa (by
          have h1:=BX.setCell (p:=⟨g,72,none⟩) (by rw[U32_length];exact tY) (.slice As nl cS);exact h1.sl)
         have R5:Hid ((w4.setCell ⟨g,72,none⟩ (.slice As nl cS)).heap[g]?=some (.cells (eS ⟨[],top,ns,true,false⟩ aV (.slice As nl cS)).toArray 62 (0,0))):=aa (by
          rw[heap_setCell_same _ _ _ _ _ _ R4.out];exact congrArg (fun c=>some (Obj.cells c 62 (0,0))) (o8 (k:=⟨[],top,[],true,false⟩) ht aV aV (.slice As nl cS)))
         have jT:Below w0.heap.size w0 (w4.setCell ⟨g,72,none⟩ (.slice As nl cS)):=lG.setCell (p:=⟨g,72,none⟩) Kt _;have abi:w4.cell? ⟨g,74,none⟩=some (.bool false):=(gQ R4.out 74).trans (kD ht _ _);clear HT cW uH fL ho BX dW ez wO OP tY;have RG:=aa (mh (k:=⟨[],top,ns,true,false⟩) ht R5.out);have RH:=aa (jt As cS ns EI (w4.setCell ⟨g,72,none⟩ (.slice As nl cS)) Th.out);obtain⟨X,hX⟩:=ab (eN ns);rw[←hX] at RH;have HX:=aa hX.symm;clear hX;rw[Tg.out] at RH;go_wp2_with (go_at_call 38;(with_reducible refine(bg _).mono ?_);rintro e w' ⟨rfl,rfl⟩);refine RH.out.mono ?_;rintro e w' ⟨rfl,rfl⟩
         cases X with
         |true=>
          go_wp2_with ((with_reducible refine bj ?c1 59 (.tmp 87) ?c2 g 1 ?c3 (ba top) _ RG.out Tryz.underlying59 ?c4 IK.out ?_);(case c2=>rfl);(case c3=>rfl);(case c4=>rfl);(case c1=>kernel_rfl));refine(Fv.out _).mono ?_;rintro e w8 ⟨rfl,eR⟩;have kS:=jT.trans (eR.mono jT.size);obtain⟨p,hp⟩:=ab top.priv;have Hp:=aa hp;rw[←hp];have GR:=aa ((eR.block g (af3.1 R5.out).1).trans R5.out);have GS:=aa ((Th.out.below eR).mono eR.size);clear hp eR
          cases p with
          |false=>
           go_wp2_with (go_at_call 38;(with_reducible refine(bR _).mono ?_);rintro e w' ⟨rfl,rfl⟩);exact⟨rfl,.inl ⟨rfl,by rw[qq.out,HX.out,←Hp.out];rfl⟩,kS⟩
          |true=>
           go_wp2_with (go_at_call 38;(with_reducible refine(bg _).mono ?_);rintro e w' ⟨rfl,rfl⟩);go_end0;exact⟨.inr ⟨rfl,ns,true,false,As,cS,by rw[qq.out,HX.out,←Hp.out];rfl,(by rw[Tg.out];exact GR.out),GS.out,ME.out⟩,kS⟩
         |false=>
          go_wp2_with (go_at_call 38;(with_reducible refine(bg _).mono ?_);rintro e w' ⟨rfl,rfl⟩);go_end0;exact⟨.inr ⟨rfl,ns,true,false,As,cS,by rw[qq.out,HX.out];rfl,(by rw[Tg.out];exact R5.out),Th.out,ME.out⟩,jT⟩
       have yp:Hid (bS top.priv ps=none):=aa (by
        rw[HT.out];have cW:bf qs=none:=by rw[iA,fL];rfl
        rw[cW];split<;>rfl)
       have abj:((E:Int)==0)=false:=by simpa using me
       clear HT fL me;go_wp2_with (go_at_call 38;(with_reducible refine(bR _).mono ?_);rintro e w' ⟨rfl,rfl⟩);exact⟨rfl,.inl ⟨rfl,yp.out⟩,lG⟩
     have yp:Hid (bS top.priv ps=none):=aa (by rw[HT.out,if_pos (by rw[←Hq.out];omega)]);have VD:decide ((m:Int)≤20)=false:=af8 (by omega);clear HT hq20;go_wp2_with (first|(go_at_call 38;(with_reducible refine(bg _).mono ?_);rintro e w' ⟨rfl,rfl⟩)|(go_at_call 38;(with_reducible refine(bR _).mono ?_);rintro e w' ⟨rfl,rfl⟩));exact⟨rfl,.inl ⟨rfl,yp.out⟩,qw⟩
   have hLB:(L.toList==[42])=false:=by rw[agt,OL.out];simpa using hB
   by_cases h2:last.length=2
   · have hLs:L.size=2:=by
      have h1:=congrArg List.length OL.out;rw[h2] at h1;simpa using h1
     obtain⟨c,hc⟩:∃c,last=[42,c]:=by
      match last,h2,cW with
      |[a,b],_,cW=>simp at cW;exact⟨b,by rw[cW]⟩
     have hex:L.extract 1 2=(⟨#[c]⟩:ByteArray):=by
      rw[HL.out,hc];rfl
     obtain⟨mx,bW⟩:=(HE.out.below aZ).max;have VG:=aa (Tryz.strings_Contains ⟨jU.toArray⟩ ⟨#[c]⟩ mx w1 (by decide) bW)
     rw[show (⟨jU.toArray⟩:ByteArray).data.toList=jU from rfl,show (⟨#[c]⟩:ByteArray).data.toList=[c] from rfl,wJ] at VG
     clear bW
     by_cases hh:cc c=true
     · rw[hh] at VG
       have oY:eH last=some (true,true):=by rw[eH,if_pos cW,if_neg hB,if_pos ⟨h2,by rw[hc];exact hh⟩]
       clear db hB hh hc h2;have HT:=aa (AW top.priv ps (ps.take m) true true (by rw[RA.out];exact oY) (by rw[if_pos rfl,List.dropLast_eq_take,←Hn.out,Hm.out,Nat.add_sub_cancel]))
       have RW:Hid (((w1.setCell ⟨g,73,none⟩ (.bool true)).setCell ⟨g,74,none⟩ (.bool true)).heap[g]?=some (.cells (eS ⟨[],top,[],true,true⟩ aV aV).toArray 62 (0,0))):=aa (by
        have h1:=heap_setCell_same w1 g 73 _ _ (Value.bool true) vx.out;rw[pa (k:=dm top) ht] at h1;have h2:=heap_setCell_same _ g 74 _ _ (Value.bool true) h1;rw[pb (k:={ dm top with ranged:=true }) ht] at h2;exact h2)
       have RE:Hid (Sl ((w1.setCell ⟨g,73,none⟩ (.bool true)).setCell ⟨g,74,none⟩ (.bool true)) ((w1.setCell ⟨g,73,none⟩ (.bool true)).setCell ⟨g,74,none⟩ (.bool true)).heap.size (some ⟨G,0,none⟩) (ST (ps.take m))):=aa (by
        rw[II];refine(OJ (cs:=ST ps) (g:=G) (t:=9) (fr:=(0,0)) ?_).take m;rw[ago _ _ _ _ (show G≠g by omega),ago _ _ _ _ (show G≠g by omega)];exact ld.out)
       have qw:Below w0.heap.size w0 ((w1.setCell ⟨g,73,none⟩ (.bool true)).setCell ⟨g,74,none⟩ (.bool true)):=(aZ.setCell (p:=⟨g,73,none⟩) Kt _).setCell (p:=⟨g,74,none⟩) Kt _;have Hq:Hid (m=(ps.take m).length):=aa (by rw[agj];have:=Hn.out;omega);have p4:∀p∈ps.take m,p∈ps:=fun p hp=>List.mem_of_mem_take hp
       have yo:(Lib.join (ps.take m) [47]).length≤(Lib.join ps [47]).length:=mU 47 ps m;have c73:w1.cell? ⟨g,73,none⟩=some (.bool false):=(gQ vx.out 73).trans (mS (k:=dm top) ht _ _);have c74:w1.cell? ⟨g,74,none⟩=some (.bool false):=(gQ vx.out 74).trans (kD (k:=dm top) ht _ _);have f73:w1.frozen? ⟨g,73,none⟩=false:=agF _ _ _ _ _ vx.out;have f74:w1.frozen? ⟨g,74,none⟩=false:=agF _ _ _ _ _ vx.out;obtain⟨qs,Yv⟩:=ab (ps.take m);rw[←Yv] at HT RE Hq p4 yo;clear oY cW RA HS OL HL ld Yv
       by_cases hq20:m≤20
       · have VD:decide ((m:Int)≤20)=true:=af9 (by omega)
         by_cases BN:m=0
         · have OM:qs=[]:=List.eq_nil_of_length_eq_zero (by rw[←Hq.out];exact BN)
           have qq:Hid (bS top.priv ps=if (true||eN [])&&!top.priv then none else some ([],true,true)):=aa (by rw[HT.out,OM];rfl);have Yw:Hid (Sl ((w1.setCell ⟨g,73,none⟩ (.bool true)).setCell ⟨g,74,none⟩ (.bool true)) ((w1.setCell ⟨g,73,none⟩ (.bool true)).setCell ⟨g,74,none⟩ (.bool true)).heap.size none (cL [])):=aa Sl.nil;subst BN;clear hq20 OM HT VD;have RG:=aa (mh (k:=⟨[],top,[],true,true⟩) ht RW.out);go_wp2_with (first|(go_at_call 38;(with_reducible refine(bg _).mono ?_);rintro e w' ⟨rfl,rfl⟩)|(go_at_call 103;refine(VG.out).mono ?_;rintro e w' ⟨rfl,bD⟩;rw[bD];clear bD)|((with_reducible refine bj ?c1 59 (.tmp 87) ?c2 g 1 ?c3 (ba top) _ RG.out Tryz.underlying59 ?c4 IK.out ?_);(case c2=>rfl);(case c3=>rfl);(case c4=>rfl);(case c1=>kernel_rfl)));refine(Fv.out _).mono ?_;rintro e w8 ⟨rfl,eR⟩;have kS:=qw.trans (eR.mono qw.size);obtain⟨p,hp⟩:=ab top.priv;have Hp:=aa hp;rw[←hp];have GR:=aa ((eR.block g (af3.1 RW.out).1).trans RW.out);have GS:=aa ((Yw.out.below eR).mono eR.size);clear hp eR
           cases p with
           |false=>
            go_wp2_with (go_at_call 38;(with_reducible refine(bR _).mono ?_);rintro e w' ⟨rfl,rfl⟩);exact⟨rfl,.inl ⟨rfl,by rw[qq.out,←Hp.out];rfl⟩,kS⟩
           |true=>
            go_wp2_with (go_at_call 38;(with_reducible refine(bg _).mono ?_);rintro e w' ⟨rfl,rfl⟩);go_end0;exact⟨.inr ⟨rfl,[],true,true,none,0,by rw[qq.out,←Hp.out];rfl,GR.out,GS.out,fun _ h=>by cases h⟩,kS⟩
         have VE:0<m:=by omega
         obtain⟨p0,pr,qx⟩:∃p0 pr,qs=p0::pr:=by
          cases hh:qs with
          |nil=>have:=Hq.out;rw[hh] at this;simp at this;omega
          |cons a b=>exact⟨a,b,rfl⟩
         obtain⟨P0,zb⟩:∃P0:ByteArray,P0=⟨p0.toArray⟩:=⟨_,rfl⟩
         have c0:((w1.setCell ⟨g,73,none⟩ (.bool true)).setCell ⟨g,74,none⟩ (.bool true)).cell? ⟨G,0,none⟩=some (.string P0):=by
          obtain⟨b9,o9,e9,_,ON⟩:=RE.out (by rw[ST_length,←Hq.out];exact VE);simp at e9;obtain⟨rfl,rfl⟩:=e9;have h9:=ON 0 (by rw[ST_length,←Hq.out];exact VE);rw[Nat.zero_add,js] at h9;rw[h9,zb];simp only[qx,List.getElem_cons_zero]
         have FG:=aa qx;have MC:=aa zb;clear qx zb BN
         by_cases hm:p0=[109]
         · have hPm:(P0.toList==[109])=true:=by
            rw[MC.out,agt];simpa using hm
           have yp:Hid (bS top.priv ps=none):=aa (by
            rw[HT.out];have cW:bf qs=none:=by rw[FG.out,hm];rfl
            rw[cW];split<;>rfl)
           clear hm HT;go_wp2_with (first|(go_at_call 38;(with_reducible refine(bg _).mono ?_);rintro e w' ⟨rfl,rfl⟩)|(go_at_call 38;(with_reducible refine(bR _).mono ?_);rintro e w' ⟨rfl,rfl⟩)|(go_at_call 103;refine(VG.out).mono ?_;rintro e w' ⟨rfl,bD⟩;rw[bD];clear bD));exact⟨rfl,.inl ⟨rfl,yp.out⟩,qw⟩
         have hPm:(P0.toList==[109])=false:=by
          rw[MC.out,agt];simpa using hm
         obtain⟨J,hJ⟩:∃J,J=Lib.join qs [47]:=⟨_,rfl⟩;have VF:J.length≤4096:=by rw[hJ];exact agx (yo) Yu.out
         have Dq:qs≠[]:=by rw[FG.out];simp
         have IW:aK 47 J=qs:=by rw[hJ];exact iG 47 _ Dq (fun p hp=>OK.out p (p4 p hp))
         have ow:=aa (mc (some ⟨G,0,none⟩) n qs 47 ((w1.setCell ⟨g,73,none⟩ (.bool true)).setCell ⟨g,74,none⟩ (.bool true)) RE.out (by rw[←Hq.out];omega) (by rw[←hJ];omega) (by rw[←Hq.out];omega));rw[←hJ,←Hq.out] at ow
         have MD:Hid (∀X,Env X→Calls Tryz.prog 104 #[.string ⟨J.toArray⟩] X fun e W'=>∃v E,e=.returned (.tuple #[v,.int .i64 ((E:Nat):Int)])∧((E=0∧eE qs=false∧Ow W' X.heap.size 55 v (cL (jl qs)))∨(E≠0∧eE qs=true))∧Below X.heap.size X W'):=aa fun X hX=>by
          have h:=sY ⟨J.toArray⟩ (by show J.toArray.size≤4096;simpa using VF) (by simp only[];rw[IW,FG.out];exact hm) (by simp only[];rw[IW,←Hq.out];omega) X hX;simp only[IW] at h;exact h
         clear hm hJ VF Dq IW yo p4;go_wp2_with (first|(go_at_call 38;(with_reducible refine(bg _).mono ?_);rintro e w' ⟨rfl,rfl⟩)|(go_at_call 103;refine(VG.out).mono ?_;rintro e w' ⟨rfl,bD⟩;rw[bD];clear bD));refine ow.out.mono ?_;rintro e w3 ⟨rfl,bd⟩;have de:=qw.trans (bd.mono qw.size);have pT:g<((w1.setCell ⟨g,73,none⟩ (.bool true)).setCell ⟨g,74,none⟩ (.bool true)).heap.size:=(af3.1 RW.out).1;have R3:=aa ((bd.block g pT).trans RW.out);have OO:g<w3.heap.size:=agq pT bd.size;clear bd c0 ow;go_wp2_with fail;refine(MD.out w3 (HE.out.below de)).mono ?_;rintro e w4 ⟨v,E,rfl,hEE,dn⟩;have lG:=de.trans (dn.mono de.size);have R4:=aa ((dn.block g OO).trans R3.out);clear dn R3 MD;rcases hEE with ⟨rfl,fL,ho⟩|⟨me,fL⟩
         · obtain⟨ns,uH⟩:=ab (jl qs)
           rw[←uH] at ho;have cW:bf qs=some ns:=by rw[iA,fL,uH];rfl
           have qq:Hid (bS top.priv ps=if (true||eN ns)&&!top.priv then none else some (ns,true,true)):=aa (by rw[HT.out,cW,if_neg (by rw[←Hq.out];omega)]);have OP:ns.length=m:=by rw[uH,jl,List.length_map,Hq.out]
           obtain⟨As,cS,rfl,dW,ez⟩:=ho.form;have BX:=ho;rw[U32_length];obtain⟨nl,wO⟩:=ab ns.length;have Tg:=aa wO.symm;rw[←wO];have abh:w4.cell? ⟨g,72,none⟩=some aV:=(gQ R4.out 72).trans (ot ht _ _);have f72:w4.frozen? ⟨g,72,none⟩=false:=agF _ _ _ _ _ R4.out
           have tY:∀r,az (.slice As ns.length cS)=some r→(⟨g,72,none⟩:Addr).block≠r:=fun r hr e=>by
            have h1:=(BX.row r (by rw[U32_length];exact hr)).1;have h2:g=r:=e;omega
           have ME:Hid (∀a,As=some a→w0.heap.size≤a.block):=aa (fun a ha=>by
            obtain⟨A7,c7,e7,h7,_,h8⟩:=BX;injection e7 with e7 _ e9;subst e7 e9;obtain⟨g9,_,e8,kC,_⟩:=h8 (by rw[U32_length] at h7;omega);rw[e8] at ha;injection ha with ha;subst ha;exact agx de.size kC)
           have Th:Hid (Sl (w4.setCell ⟨g,72,none⟩ (.slice As nl cS)) (w4.setCell ⟨g,72,none⟩ (.slice As nl cS)).heap.size As (cL ns)):=aa (by
            have h1:=BX.setCell (p:=⟨g,72,none⟩) (by rw[U32_length];exact tY) (.slice As nl cS);exact h1.sl)
           have R5:Hid ((w4.setCell ⟨g,72,none⟩ (.slice As nl cS)).heap[g]?=some (.cells (eS ⟨[],top,ns,true,true⟩ aV (.slice As nl cS)).toArray 62 (0,0))):=aa (by
            rw[heap_setCell_same _ _ _ _ _ _ R4.out];exact congrArg (fun c=>some (Obj.cells c 62 (0,0))) (o8 (k:=⟨[],top,[],true,true⟩) ht aV aV (.slice As nl cS)))
           have jT:Below w0.heap.size w0 (w4.setCell ⟨g,72,none⟩ (.slice As nl cS)):=lG.setCell (p:=⟨g,72,none⟩) Kt _;have abi:w4.cell? ⟨g,74,none⟩=some (.bool true):=(gQ R4.out 74).trans (kD ht _ _);clear HT cW uH fL ho BX dW ez wO OP tY;have RG:=aa (mh (k:=⟨[],top,ns,true,true⟩) ht R5.out);go_wp2_with (first|(go_at_call 38;(with_reducible refine(bg _).mono ?_);rintro e w' ⟨rfl,rfl⟩)|((with_reducible refine bj ?c1 59 (.tmp 87) ?c2 g 1 ?c3 (ba top) _ RG.out Tryz.underlying59 ?c4 IK.out ?_);(case c2=>rfl);(case c3=>rfl);(case c4=>rfl);(case c1=>kernel_rfl)));refine(Fv.out _).mono ?_;rintro e w8 ⟨rfl,eR⟩;have kS:=jT.trans (eR.mono jT.size);obtain⟨p,hp⟩:=ab top.priv;have Hp:=aa hp;rw[←hp];have GR:=aa ((eR.block g (af3.1 R5.out).1).trans R5.out);have GS:=aa ((Th.out.below eR).mono eR.size);clear hp eR
           cases p with
           |false=>
            go_wp2_with (go_at_call 38;(with_reducible refine(bR _).mono ?_);rintro e w' ⟨rfl,rfl⟩);exact⟨rfl,.inl ⟨rfl,by rw[qq.out,←Hp.out];rfl⟩,kS⟩
           |true=>
            go_wp2_with (go_at_call 38;(with_reducible refine(bg _).mono ?_);rintro e w' ⟨rfl,rfl⟩);go_end0;exact⟨.inr ⟨rfl,ns,true,true,As,cS,by rw[qq.out,←Hp.out];rfl,(by rw[Tg.out];exact GR.out),GS.out,ME.out⟩,kS⟩
         have yp:Hid (bS top.priv ps=none):=aa (by
          rw[HT.out];have cW:bf qs=none:=by rw[iA,fL];rfl
          rw[cW];split<;>rfl)
         have abj:((E:Int)==0)=false:=by simpa using me
         clear HT fL me;go_wp2_with (go_at_call 38;(with_reducible refine(bR _).mono ?_);rintro e w' ⟨rfl,rfl⟩);exact⟨rfl,.inl ⟨rfl,yp.out⟩,lG⟩
       have yp:Hid (bS top.priv ps=none):=aa (by rw[HT.out,if_pos (by rw[←Hq.out];omega)]);have VD:decide ((m:Int)≤20)=false:=af8 (by omega);clear HT hq20;go_wp2_with (first|(go_at_call 38;(with_reducible refine(bg _).mono ?_);rintro e w' ⟨rfl,rfl⟩)|(go_at_call 38;(with_reducible refine(bR _).mono ?_);rintro e w' ⟨rfl,rfl⟩)|(go_at_call 103;refine(VG.out).mono ?_;rintro e w' ⟨rfl,bD⟩;rw[bD];clear bD));exact⟨rfl,.inl ⟨rfl,yp.out⟩,qw⟩
     have oY:eH last=none:=by rw[eH,if_pos cW,if_neg hB,if_neg (by rw[hc];exact fun h=>hh h.2)]
     have yp:Hid (bS top.priv ps=none):=aa (zj _ _ (by rw[RA.out];exact oY));rw[show cc c=false by simpa using hh] at VG;clear db hB hh hc h2 oY cW OL RA HL;go_wp2_with (first|(go_at_call 103;refine(VG.out).mono ?_;rintro e w' ⟨rfl,bD⟩;rw[bD];clear bD)|(go_at_call 38;(with_reducible refine(bR _).mono ?_);rintro e w' ⟨rfl,rfl⟩));exact⟨rfl,.inl ⟨rfl,yp.out⟩,aZ⟩
   have oY:eH last=none:=by rw[eH,if_pos cW,if_neg hB,if_neg (fun h=>h2 h.1)]
   have yp:Hid (bS top.priv ps=none):=aa (zj _ _ (by rw[RA.out];exact oY));have hLs:¬L.size=2:=fun e=>h2 (by have h1:=congrArg List.length OL.out;rw[←h1];simpa using e)
   have afc:((L.size:Int)==2)=false:=by simp;omega
   clear db hB h2 oY cW OL RA HL;go_wp2_with (go_at_call 38;(with_reducible refine(bR _).mono ?_);rintro e w' ⟨rfl,rfl⟩);exact⟨rfl,.inl ⟨rfl,yp.out⟩,aZ⟩
 rw[af8 cW];have oY:eH last=some (false,false):=by rw[eH,if_neg cW]
 have HT:=aa (AW top.priv ps ps false false (by rw[RA.out];exact oY) rfl);have RE:Hid (Sl w1 w1.heap.size (some ⟨G,0,none⟩) (ST ps)):=aa (HS.out.mono (by have:=vH.out;omega));have Hq:=Hn;have p4:∀p∈ps,p∈ps:=fun _ h=>h
 have yo:(Lib.join ps [47]).length≤(Lib.join ps [47]).length:=af2 _;clear oY cW db hmi RA HS OL HL
 by_cases hq20:n≤20
 · have VD:decide ((n:Int)≤20)=true:=af9 (by omega)
   by_cases BN:n=0
   · exact absurd BN (by omega)
   have VE:0<n:=by omega
   obtain⟨p0,pr,qx⟩:∃p0 pr,ps=p0::pr:=by
    cases hh:ps with
    |nil=>have:=Hq.out;rw[hh] at this;simp at this;omega
    |cons a b=>exact⟨a,b,rfl⟩
   obtain⟨P0,zb⟩:∃P0:ByteArray,P0=⟨p0.toArray⟩:=⟨_,rfl⟩
   have c0:w1.cell? ⟨G,0,none⟩=some (.string P0):=by
    obtain⟨b9,o9,e9,_,ON⟩:=RE.out (by rw[ST_length,←Hq.out];exact VE);simp at e9;obtain⟨rfl,rfl⟩:=e9;have h9:=ON 0 (by rw[ST_length,←Hq.out];exact VE);rw[Nat.zero_add,js] at h9;rw[h9,zb];simp only[qx,List.getElem_cons_zero]
   have FG:=aa qx;have MC:=aa zb;clear qx zb BN
   by_cases hm:p0=[109]
   · have hPm:(P0.toList==[109])=true:=by
      rw[MC.out,agt];simpa using hm
     have yp:Hid (bS top.priv ps=none):=aa (by
      rw[HT.out];have cW:bf ps=none:=by rw[FG.out,hm];rfl
      rw[cW];split<;>rfl)
     clear hm HT;go_wp2_with (first|(go_at_call 38;(with_reducible refine(bg _).mono ?_);rintro e w' ⟨rfl,rfl⟩)|(go_at_call 38;(with_reducible refine(bR _).mono ?_);rintro e w' ⟨rfl,rfl⟩));exact⟨rfl,.inl ⟨rfl,yp.out⟩,aZ⟩
   have hPm:(P0.toList==[109])=false:=by
    rw[MC.out,agt];simpa using hm
   obtain⟨J,hJ⟩:∃J,J=Lib.join ps [47]:=⟨_,rfl⟩;have VF:J.length≤4096:=by rw[hJ];exact agx (yo) Yu.out
   have Dq:ps≠[]:=by rw[FG.out];simp
   have IW:aK 47 J=ps:=by rw[hJ];exact iG 47 _ Dq (fun p hp=>OK.out p (p4 p hp))
   have ow:=aa (mc (some ⟨G,0,none⟩) n ps 47 w1 RE.out (by rw[←Hq.out];omega) (by rw[←hJ];omega) (by rw[←Hq.out];omega));rw[←hJ,←Hq.out] at ow
   have MD:Hid (∀X,Env X→Calls Tryz.prog 104 #[.string ⟨J.toArray⟩] X fun e W'=>∃v E,e=.returned (.tuple #[v,.int .i64 ((E:Nat):Int)])∧((E=0∧eE ps=false∧Ow W' X.heap.size 55 v (cL (jl ps)))∨(E≠0∧eE ps=true))∧Below X.heap.size X W'):=aa fun X hX=>by
    have h:=sY ⟨J.toArray⟩ (by show J.toArray.size≤4096;simpa using VF) (by simp only[];rw[IW,FG.out];exact hm) (by simp only[];rw[IW,←Hq.out];omega) X hX;simp only[IW] at h;exact h
   clear hm hJ VF Dq IW yo p4;go_wp2_with (first|(go_at_call 38;(with_reducible refine(bg _).mono ?_);rintro e w' ⟨rfl,rfl⟩));refine ow.out.mono ?_;rintro e w3 ⟨rfl,bd⟩;have de:=aZ.trans (bd.mono aZ.size);have pT:g<w1.heap.size:=(af3.1 vx.out).1;have R3:=aa ((bd.block g pT).trans vx.out);have OO:g<w3.heap.size:=agq pT bd.size;clear bd c0 ow;go_wp2_with fail;refine(MD.out w3 (HE.out.below de)).mono ?_;rintro e w4 ⟨v,E,rfl,hEE,dn⟩;have lG:=de.trans (dn.mono de.size);have R4:=aa ((dn.block g OO).trans R3.out);clear dn R3 MD;rcases hEE with ⟨rfl,fL,ho⟩|⟨me,fL⟩
   · obtain⟨ns,uH⟩:=ab (jl ps)
     rw[←uH] at ho;have cW:bf ps=some ns:=by rw[iA,fL,uH];rfl
     have qq:Hid (bS top.priv ps=if (false||eN ns)&&!top.priv then none else some (ns,false,false)):=aa (by rw[HT.out,cW,if_neg (by rw[←Hq.out];omega)]);have OP:ns.length=n:=by rw[uH,jl,List.length_map,Hq.out]
     obtain⟨As,cS,rfl,dW,ez⟩:=ho.form;have BX:=ho;rw[U32_length];obtain⟨nl,wO⟩:=ab ns.length;have Tg:=aa wO.symm;have EI:ns.length≤4096:=by omega
     rw[←wO];have abh:w4.cell? ⟨g,72,none⟩=some aV:=(gQ R4.out 72).trans (ot ht _ _);have f72:w4.frozen? ⟨g,72,none⟩=false:=agF _ _ _ _ _ R4.out
     have tY:∀r,az (.slice As ns.length cS)=some r→(⟨g,72,none⟩:Addr).block≠r:=fun r hr e=>by
      have h1:=(BX.row r (by rw[U32_length];exact hr)).1;have h2:g=r:=e;omega
     have ME:Hid (∀a,As=some a→w0.heap.size≤a.block):=aa (fun a ha=>by
      obtain⟨A7,c7,e7,h7,_,h8⟩:=BX;injection e7 with e7 _ e9;subst e7 e9;obtain⟨g9,_,e8,kC,_⟩:=h8 (by rw[U32_length] at h7;omega);rw[e8] at ha;injection ha with ha;subst ha;exact agx de.size kC)
     have Th:Hid (Sl (w4.setCell ⟨g,72,none⟩ (.slice As nl cS)) (w4.setCell ⟨g,72,none⟩ (.slice As nl cS)).heap.size As (cL ns)):=aa (by
      have h1:=BX.setCell (p:=⟨g,72,none⟩) (by rw[U32_length];exact tY) (.slice As nl cS);exact h1.sl)
     have R5:Hid ((w4.setCell ⟨g,72,none⟩ (.slice As nl cS)).heap[g]?=some (.cells (eS ⟨[],top,ns,false,false⟩ aV (.slice As nl cS)).toArray 62 (0,0))):=aa (by
      rw[heap_setCell_same _ _ _ _ _ _ R4.out];exact congrArg (fun c=>some (Obj.cells c 62 (0,0))) (o8 (k:=⟨[],top,[],false,false⟩) ht aV aV (.slice As nl cS)))
     have jT:Below w0.heap.size w0 (w4.setCell ⟨g,72,none⟩ (.slice As nl cS)):=lG.setCell (p:=⟨g,72,none⟩) Kt _;have abi:w4.cell? ⟨g,74,none⟩=some (.bool false):=(gQ R4.out 74).trans (kD ht _ _);clear HT cW uH fL ho BX dW ez wO OP tY;have RG:=aa (mh (k:=⟨[],top,ns,false,false⟩) ht R5.out);have RH:=aa (jt As cS ns EI (w4.setCell ⟨g,72,none⟩ (.slice As nl cS)) Th.out);obtain⟨X,hX⟩:=ab (eN ns);rw[←hX] at RH;have HX:=aa hX.symm;clear hX;rw[Tg.out] at RH;go_wp2_with (go_at_call 38;(with_reducible refine(bg _).mono ?_);rintro e w' ⟨rfl,rfl⟩);refine RH.out.mono ?_;rintro e w' ⟨rfl,rfl⟩
     cases X with
     |true=>
      go_wp2_with ((with_reducible refine bj ?c1 59 (.tmp 87) ?c2 g 1 ?c3 (ba top) _ RG.out Tryz.underlying59 ?c4 IK.out ?_);(case c2=>rfl);(case c3=>rfl);(case c4=>rfl);(case c1=>kernel_rfl));refine(Fv.out _).mono ?_;rintro e w8 ⟨rfl,eR⟩;have kS:=jT.trans (eR.mono jT.size);obtain⟨p,hp⟩:=ab top.priv;have Hp:=aa hp;rw[←hp];have GR:=aa ((eR.block g (af3.1 R5.out).1).trans R5.out);have GS:=aa ((Th.out.below eR).mono eR.size);clear hp eR
      cases p with
      |false=>
       go_wp2_with (go_at_call 38;(with_reducible refine(bR _).mono ?_);rintro e w' ⟨rfl,rfl⟩);exact⟨rfl,.inl ⟨rfl,by rw[qq.out,HX.out,←Hp.out];rfl⟩,kS⟩
      |true=>
       go_wp2_with (go_at_call 38;(with_reducible refine(bg _).mono ?_);rintro e w' ⟨rfl,rfl⟩);go_end0;exact⟨.inr ⟨rfl,ns,false,false,As,cS,by rw[qq.out,HX.out,←Hp.out];rfl,(by rw[Tg.out];exact GR.out),GS.out,ME.out⟩,kS⟩
     |false=>
      go_wp2_with (go_at_call 38;(with_reducible refine(bg _).mono ?_);rintro e w' ⟨rfl,rfl⟩);go_end0;exact⟨.inr ⟨rfl,ns,false,false,As,cS,by rw[qq.out,HX.out];rfl,(by rw[Tg.out];exact R5.out),Th.out,ME.out⟩,jT⟩
   have yp:Hid (bS top.priv ps=none):=aa (by
    rw[HT.out];have cW:bf ps=none:=by rw[iA,fL];rfl
    rw[cW];split<;>rfl)
   have abj:((E:Int)==0)=false:=by simpa using me
   clear HT fL me;go_wp2_with (go_at_call 38;(with_reducible refine(bR _).mono ?_);rintro e w' ⟨rfl,rfl⟩);exact⟨rfl,.inl ⟨rfl,yp.out⟩,lG⟩
 have yp:Hid (bS top.priv ps=none):=aa (by rw[HT.out,if_pos (by rw[←Hq.out];omega)]);have VD:decide ((n:Int)≤20)=false:=af8 (by omega);clear HT hq20;go_wp2_with (first|(go_at_call 38;(with_reducible refine(bg _).mono ?_);rintro e w' ⟨rfl,rfl⟩)|(go_at_call 38;(with_reducible refine(bR _).mono ?_);rintro e w' ⟨rfl,rfl⟩));exact⟨rfl,.inl ⟨rfl,yp.out⟩,aZ⟩
end Go.Proofs.YtcjioogololnoaaGreatDoor

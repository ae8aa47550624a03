/- Of any text: the program's descriptors and the reference's are read and written alike (DescParses). No condition. -/
import Derived.Test.YtcjioogololnoaaGreatDoorU1
import Derived.Test.YtcjioogololnoaaGreatDoorU17
import Derived.Test.YtcjioogololnoaaGreatDoorU16
import Derived.Great.BuildSlice
import Derived.Maps.AppendAt
set_option maxRecDepth 1000000
set_option maxHeartbeats 16000000
set_option linter.unusedVariables false
set_option linter.unusedSimpArgs false
namespace Go.Proofs.YtcjioogololnoaaGreatDoor
open Go Go.RowKit Go.Shelf
section
variable {P:Program} {ops:Array Oper} {rest:List Oper} {o:Oper} {a:Act} {w:World} {Q:Exit→Act→World→Prop}
theorem bQ (tF:o.guard=none) (t:TypeId) (parts:Array (Nat×Operand)) (ho:o.op=.build t parts) (cells:Array Value)
 (hf0:P.built t (parts.toList.map fun (i,x)=>(i,a.eval x))=some cells) (h:wpList P ops Q rest (a.put o.dst (.agg cells)) w):wpList P ops Q (o::rest) a w:=by
 have hf:P.built t (parts.map fun (i,x)=>(i,a.eval x)).toList=some cells:=by rw[Array.toList_map];exact hf0
 exact wpList_build tF t parts ho (by rw[hf];rfl) (by rw[hf];exact h)
end
def dz:Array Value:=(eS (dm aP) aV aV).toArray
theorem eB:dz.size=75:=by simp[dz,aT (k:=dm aP) cI]
theorem ir (k:DKey) (pv sv:Value) (h1:pv.oneCell'=true) (h2:sv.oneCell'=true):(eS k pv sv).toArray.all (·.oneCell')=true:=by
 have hk:=jK k.top;rw[List.all_toArray] at hk⊢;simp only[eS,List.all_cons,List.all_append,h1,hk,h2,Bool.true_and,List.all_nil,Bool.and_true];rfl
theorem p8 (parts:List (Nat×Value)):Tryz.prog.built 62 parts=Instr.fill (fun x=>(#[(0,1),(1,71),(72,1),(73,1),(74,1)]:Array (Nat×Nat))[x]?) dz parts:=by kernel_rfl
theorem AY (b:List UInt8) (A:Option Addr) (n c:Nat):Tryz.prog.built 62 [(0,.slice A n c)]=some (eS ⟨b,aP,[],false,false⟩ (.slice A n c) aV).toArray:=by
 rw[p8];have e0:dz=([]++([aV]++(ba aP++[aV,.bool false,.bool false]))).toArray:=rfl;rw[e0,fe _ 0 _ _ [] [aV] _ rfl rfl,Instr.fill];rfl
theorem wR (top:HKey) (h:top.Ok):Tryz.prog.built 62 [(1,.agg (ba top).toArray)]=some (eS (dm top) aV aV).toArray:=by
 rw[p8];have e0:dz=([aV]++(ba aP++[aV,.bool false,.bool false])).toArray:=rfl;rw[e0,fe _ 1 _ _ [aV] (ba aP) _ (by rw[aI cI];rfl) (by simp[Value.cells,aI h,aI cI]),Instr.fill];rfl
def KV (W:World) (lo:Nat) (k:DKey) (pv sv:Value):Prop:=
 (∃A c,pv=.slice A k.plain.length c∧Sl W W.heap.size A (B8 k.plain)∧(k.plain=[]→pv=aV)∧(∀a,A=some a→lo≤a.block))∧(∃A c,sv=.slice A k.steps.length c∧Sl W W.heap.size A (cL k.steps)∧(∀a,A=some a→lo≤a.block))
theorem KV.below {W W':World} {lo:Nat} {k:DKey} {pv sv:Value} (h:KV W lo k pv sv) (hb:Below W.heap.size W W'):KV W' lo k pv sv:=by
 obtain⟨⟨A,c,h1,h2,h3,h6⟩,A',c',h4,h5,h7⟩:=h;exact⟨⟨A,c,h1,(h2.below hb).mono hb.size,h3,h6⟩,A',c',h4,(h5.below hb).mono hb.size,h7⟩
theorem KV.mono {W:World} {lo lo':Nat} {k:DKey} {pv sv:Value} (h:KV W lo k pv sv) (hl:lo'≤lo):KV W lo' k pv sv:=by
 obtain⟨⟨A,c,h1,h2,h3,h6⟩,A',c',h4,h5,h7⟩:=h;exact⟨⟨A,c,h1,h2,h3,fun a ha=>agx hl (h6 a ha)⟩,A',c',h4,h5,fun a ha=>agx hl (h7 a ha)⟩
theorem KV.kept {W W':World} {lo:Nat} {k:DKey} {pv sv:Value} (h:KV W lo k pv sv) (hz:W.heap.size≤W'.heap.size) (hk:∀j,lo≤j→j<W.heap.size→W'.heap[j]?=W.heap[j]?):KV W' lo k pv sv:=by
 obtain⟨⟨A,c,h1,h2,h3,h6⟩,A',c',h4,h5,h7⟩:=h
 have go:∀(A:Option Addr) (xs:List Value),Sl W W.heap.size A xs→(∀a,A=some a→lo≤a.block)→Sl W' W'.heap.size A xs:=fun A xs hs hl hn=>by
  obtain⟨b,o,rfl,hb,hc⟩:=hs hn;exact⟨b,o,rfl,by omega,fun j hj=>by rw[World.cell?_of_block (a:=⟨b,o+j,none⟩) (hk b (hl _ rfl) hb)];exact hc j hj⟩
 exact⟨⟨A,c,h1,go A _ h2 h6,h3,h6⟩,A',c',h4,go A' _ h5 h7,h7⟩
theorem KV.one {W:World} {lo:Nat} {k:DKey} {pv sv:Value} (h:KV W lo k pv sv):pv.oneCell'=true∧sv.oneCell'=true:=by
 obtain⟨⟨A,c,h1,_⟩,A',c',h4,_⟩:=h;rw[h1,h4];exact⟨rfl,rfl⟩
theorem AZ (s sep:List UInt8):(Lib.cut s sep).1.length≤s.length∧(Lib.cut s sep).2.1.length≤s.length:=by
 unfold Lib.cut;split<;>simp;omega
theorem ml {w:World} {A:Option Addr} {xs:List Value} {g:Nat} {cs:Array Value} (h:Sl w w.heap.size A xs) (dt:∀a,A=some a→a.block≠g):Sl (w.setRow g cs) (w.setRow g cs).heap.size A xs:=fun hn=>by
 obtain⟨b,o,rfl,hb,hc⟩:=h hn;refine⟨b,o,rfl,by simpa using hb,fun j hj=>?_⟩;rw[World.cell?_of_block (a:=⟨b,o+j,none⟩) (setRow_other w g b cs (fun e=>dt ⟨b,o,none⟩ rfl e))];exact hc j hj
def OQ (S:List UInt8):Option (List UInt8)→Option DKey
 |some b=>if iE b&&decide (eF b=S) then some ⟨b,aP,[],false,false⟩ else none
 |none=>ij S
theorem Dr (S:List UInt8) (h:S.length=66):aR S=OQ S (cJ S):=by
 rw[aR,if_pos h]
 cases cJ S<;>rfl
def RK (w:World) (S:List UInt8) (e:Ending) (W':World):Prop:=
 ((e=.panicked IN∧aR S=none)∨(∃k pv sv,aR S=some k∧e=.returned (.agg (eS k pv sv).toArray)∧KV W' w.heap.size k pv sv))∧Below w.heap.size w W'
theorem tZ (s:ByteArray) (hsz:s.size≤4096) (w:World) (hE:Env w):
 Calls Tryz.prog 39 #[.string s] w (RK w s.data.toList):=by
 obtain⟨S,hS⟩:=ab s.data.toList;have sU:S.length=s.size:=by rw[hS];simp
 rw[←hS];have hcut:=IJ s 47 (by omega);rw[←hS] at hcut;have aF:=af4 w (.cells dz 62);obtain⟨W0,aM⟩:=ab (w.alloc (.cells dz 62));rw[←aM] at aF;have bL:Below w.heap.size w W0:=by rw[aM];exact(af5 _ w).alloc (af2 _) _
 have iC:W0.heap.size=w.heap.size+1:=by rw[aM];simp
 obtain⟨B,hB⟩:=ab w.heap.size;have FH:=aa hcut;have gJ:=aa aM;have HS:=aa hS;have tg:=aa sU;have HE:=aa hE;have HB:=aa hB;have eC:=aa aF;have kM:=aa iC;have Idz:=aa (show (Tryz.prog.info? 62).map (·.size)=some dz.size by rw[eB];kernel_rfl);clear hS sU hcut aF aM iC hB hE
 by_cases KJ:s.size=66
 · have adr:(s.size:Int)=66:=by omega
   obtain⟨U,hU⟩:=ab (cJ S);have OR:=fun W=>AX s W (by omega)
   rw[←HS.out,←hU] at OR;have Yz:=aa OR;have hR:aR S=OQ S U:=by rw[Dr S (by rw[tg.out];exact KJ),←hU]
   have Tj:=aa hR;have HU:=aa hU;have H66:=aa KJ;clear hR hU OR KJ;go_enter Tryz.func39,Tryz.ntmps39;go_wp2_with fail;refine(show W0=_ from gJ.out)▸?_;rw[←HB.out] at eC kM⊢;refine(Yz.out W0).mono ?_;rintro e wh ⟨v,rfl,ho,we⟩;have OS:Below w.heap.size w wh:=bL.trans (we.mono bL.size);have FJ:=aa ((we.block B (by have:=kM.out;omega)).trans eC.out);have yi:B<wh.heap.size:=(af3.1 FJ.out).1
   cases U with
   |none=>
    have HR:=aa (show aR S=ij S from Tj.out);have hE3:unE none=3:=rfl;rw[hE3];clear ho we Yz Tj hE3;go_wp2_with fail;obtain⟨C1,Ba⟩:∃C1,C1=(Lib.cut S [47]).1:=⟨_,rfl⟩;obtain⟨C2,BR⟩:∃C2,C2=(Lib.cut S [47]).2.1:=⟨_,rfl⟩;obtain⟨mo,YA⟩:∃mo,mo=(Lib.cut S [47]).2.2:=⟨_,rfl⟩;have VH:=AZ S [47];rw[←Ba,←BR] at VH;obtain⟨E,Mz⟩:∃E,E=(cM C1).1:=⟨_,rfl⟩;obtain⟨top,jX⟩:∃top,top=(cM C1).2:=⟨_,rfl⟩;have ht:top.Ok:=by rw[jX];exact ju C1
    have x4:aR S=if E=0 then (if mo=true then (bS top.priv (aK 47 C2)).map fun t=>⟨[],top,t.1,t.2.1,t.2.2⟩ else some (dm top)) else none:=by
     rw[HR.out,ij,←Ba,←BR,←YA,←Mz,←jX];rfl
    have lf:=aa x4;have hP:=vX ⟨C1.toArray⟩ (by show C1.toArray.size≤4096;have:=tg.out;simp;omega);simp only[] at hP;rw[←Mz,←jX] at hP;have HP:=aa hP;have YB:Hid ((⟨C2.toArray⟩:ByteArray).size≤4096):=aa (by show C2.toArray.size≤4096;have:=tg.out;simp;omega);have YC:=FH.out wh (HE.out.below OS);rw[←Ba,←BR,←YA] at YC;have Hcu:=aa YC;obtain⟨cs,bB⟩:∃cs,cs=(ba top).toArray:=⟨_,rfl⟩;have dX:cs.size=71:=by rw[bB];simp[aI ht]
    have fJ:=aa (show (Tryz.prog.info? 59).map (·.size)=some cs.size by rw[dX];kernel_rfl);have kL:=aa (show kz.size=cs.size by rw[dX];rfl);have mR:=aa (show cs.all (·.oneCell')=true by rw[bB];exact jK top);obtain⟨ds,qk⟩:∃ds,ds=(eS (dm top) aV aV).toArray:=⟨_,rfl⟩;have ED:ds.size=75:=by rw[qk];simp[aT (k:=dm top) ht]
    have KK:=aa (show (Tryz.prog.info? 62).map (·.size)=some ds.size by rw[ED];kernel_rfl);have Tk:=aa (show dz.size=ds.size by rw[ED];exact eB);have Tl:=aa (show ds.all (·.oneCell')=true by rw[qk];exact ir _ _ _ rfl rfl);have MH:=aa (show Tryz.prog.built 62 [(1,.agg cs)]=some ds by rw[bB,qk];exact wR top ht);have Cu:=aa qk;have oX:=aa bB;have Ht:=aa ht;rw[←bB] at HP;clear Ba BR YA VH Mz jX ht x4 hP YC bB dX qk ED HR FH;refine Hcu.out.mono ?_;rintro e w1 ⟨rfl,dW⟩;have dy:=OS.trans (dW.mono OS.size);have ja:=aa ((dW.block B yi).trans FJ.out);have KL:B<w1.heap.size:=(af3.1 ja.out).1;clear dW Hcu;go_wp2_with fail;refine(HP.out w1).mono ?_;rintro e w2 ⟨rfl,ez⟩;have dZ:=dy.trans (ez.mono dy.size);have oo:=aa ((ez.block B KL).trans ja.out);have OT:B<w2.heap.size:=(af3.1 oo.out).1;obtain⟨w3,mf⟩:=ab (w2.alloc (.cells cs 59));obtain⟨g1,jd⟩:=ab w2.heap.size;have pd:=aa mf;have YD:=aa jd;have K3:Hid (w3.heap[g1]?=some (.cells cs 59 (0,0))):=aa (by rw[mf,jd];exact af4 w2 _);have de:Below w.heap.size w w3:=by rw[mf];exact dZ.alloc dZ.size _
    have fo:Hid (w3.heap[B]?=some (.cells dz 62 (0,0))):=aa (by rw[mf,Lib.alloc_old _ _ _ OT];exact oo.out);have OU:B<w3.heap.size:=(af3.1 fo.out).1;clear mf jd ez HP ja
    by_cases me:E=0
    · subst me
      obtain⟨w4,nE⟩:=ab (w3.alloc (.cells ds 62));obtain⟨g2,lv⟩:=ab w3.heap.size;have K4:Hid (w4.heap[g2]?=some (.cells ds 62 (0,0))):=aa (by rw[nE,lv];exact af4 w3 _);have lG:Below w.heap.size w w4:=by rw[nE];exact de.alloc de.size _
      have ic:Hid (w4.heap[B]?=some (.cells dz 62 (0,0))):=aa (by rw[nE,Lib.alloc_old _ _ _ OU];exact fo.out);have OV:=aa nE;have YE:=aa lv;clear nE lv
      cases mo
      ·
       go_wp2_with (first|(go_at_call 38;(with_reducible refine(bg _).mono ?_);rintro e w' ⟨rfl,rfl⟩)|((with_reducible refine af6 ?s1 59 (.tmp 8) (.tmp 41) ?s2 w2.heap.size cs ?s3 ?s4 59 _ (af4 w2 _) fJ.out ?s6 mR.out ?_);(case s1=>rfl);(case s2=>rfl);(case s3=>rfl);(case s4=>rfl);(case s6=>exact kL.out);rw[agi];(refine(show w3=_ from pd.out)▸?_);rw[←YD.out])|((with_reducible refine aga ?_ 59 (.tmp 8) ?_ g1 ?_ 59 cs (0,0) _ K3.out Tryz.underlying59 ?_ fJ.out ?_);rfl;rfl;rfl;rfl)|((with_reducible refine bQ ?_ 62 #[(1,.tmp 46)] ?_ ds ?_ ?_);rfl;rfl;exact MH.out)|((with_reducible refine af6 ?s1 62 (.tmp 10) (.tmp 47) ?s2 w3.heap.size ds ?s3 ?s4 62 _ (af4 w3 _) KK.out ?s6 Tl.out ?_);(case s1=>rfl);(case s2=>rfl);(case s3=>rfl);(case s4=>rfl);(case s6=>exact Tk.out);rw[agi];(refine(show w4=_ from OV.out)▸?_);rw[←YE.out])|((with_reducible refine aga ?_ 62 (.tmp 10) ?_ g2 ?_ 62 ds (0,0) _ K4.out Tryz.underlying62 ?_ KK.out ?_);rfl;rfl;rfl;rfl)|((with_reducible refine af6 ?_ 62 (.tmp 2) (.tmp 51) ?_ B ds ?_ ?_ 62 _ ic.out KK.out ?_ Tl.out ?_);rfl;rfl;rfl;rfl;exact Tk.out))
       have hk:aR S=some (dm top):=by rw[lf.out];simp
       refine agf (v:=.agg ds) ?_ rfl ⟨.inr ⟨dm top,aV,aV,hk,by rw[Cu.out],⟨none,0,rfl,Sl.nil,fun _=>rfl,fun _ h=>by cases h⟩,none,0,rfl,Sl.nil,fun _ h=>by cases h⟩,ah lG (by rw[HB.out];exact af2 _) _⟩;exact ags rfl _ _ B 62 ds (0,0) _ rfl (agd _ _ _ _ _ _ ic.out) Tryz.underlying62 rfl KK.out
      · have pE:Below w3.heap.size w3 w4:=by rw[OV.out];exact(af5 _ w3).alloc (af2 _) _
        have hK:=zk w3 (HE.out.below de) g2 (by rw[YE.out];exact af2 _) ⟨C2.toArray⟩ YB.out top Ht.out w4 pE (by rw[←Cu.out];exact K4.out);simp only[] at hK;have HKp:=aa hK;clear hK pE;go_wp2_with (first|(go_at_call 38;(with_reducible refine(bg _).mono ?_);rintro e w' ⟨rfl,rfl⟩)|((with_reducible refine af6 ?s1 59 (.tmp 8) (.tmp 41) ?s2 w2.heap.size cs ?s3 ?s4 59 _ (af4 w2 _) fJ.out ?s6 mR.out ?_);(case s1=>rfl);(case s2=>rfl);(case s3=>rfl);(case s4=>rfl);(case s6=>exact kL.out);rw[agi];(refine(show w3=_ from pd.out)▸?_);rw[←YD.out])|((with_reducible refine aga ?_ 59 (.tmp 8) ?_ g1 ?_ 59 cs (0,0) _ K3.out Tryz.underlying59 ?_ fJ.out ?_);rfl;rfl;rfl;rfl)|((with_reducible refine bQ ?_ 62 #[(1,.tmp 46)] ?_ ds ?_ ?_);rfl;rfl;exact MH.out)|((with_reducible refine af6 ?s1 62 (.tmp 10) (.tmp 47) ?s2 w3.heap.size ds ?s3 ?s4 62 _ (af4 w3 _) KK.out ?s6 Tl.out ?_);(case s1=>rfl);(case s2=>rfl);(case s3=>rfl);(case s4=>rfl);(case s6=>exact Tk.out);rw[agi];(refine(show w4=_ from OV.out)▸?_);rw[←YE.out]))
        refine HKp.out.mono ?_;rintro e w5 ⟨h5,eh⟩;have jT:=de.trans (eh.mono de.size);have pL:=aa ((eh.block B OU).trans fo.out);rcases h5 with ⟨rfl,OW⟩|⟨rfl,ns,r,h,A5,c5,OW,YF,hS5,hA5⟩
        · have hk:aR S=none:=by rw[lf.out];simp[OW]
          have Hk:=aa hk;clear hk OW eh;exact⟨rfl,.inl ⟨rfl,Hk.out⟩,jT⟩
        have hk:aR S=some ⟨[],top,ns,r,h⟩:=by rw[lf.out];simp[OW]
        have Hk:=aa hk;obtain⟨fs,rS⟩:∃fs,fs=(eS ⟨[],top,ns,r,h⟩ aV (.slice A5 ns.length c5)).toArray:=⟨_,rfl⟩;have lR:fs.size=75:=by rw[rS];simp[aT (k:=⟨[],top,ns,r,h⟩) Ht.out]
        have th:=aa (show (Tryz.prog.info? 62).map (·.size)=some fs.size by rw[lR];kernel_rfl);have KM:=aa (show dz.size=fs.size by rw[lR];exact eB);have Bb:=aa (show fs.all (·.oneCell')=true by rw[rS];exact ir _ _ _ rfl rfl);rw[←rS] at YF;have K5:=aa YF;have S5:=aa hS5;have rT:=aa rS;clear hk OW eh rS lR YF hS5;go_wp2_with (first|((with_reducible refine aga ?_ 62 (.tmp 10) ?_ g2 ?_ 62 fs (0,0) _ K5.out Tryz.underlying62 ?_ th.out ?_);rfl;rfl;rfl;rfl)|((with_reducible refine af6 ?_ 62 (.tmp 2) (.tmp 51) ?_ B fs ?_ ?_ 62 _ pL.out th.out ?_ Bb.out ?_);rfl;rfl;rfl;rfl;exact KM.out));refine agf (v:=.agg fs) ?_ rfl ⟨.inr ⟨⟨[],top,ns,r,h⟩,aV,.slice A5 ns.length c5,Hk.out,by rw[rT.out],⟨none,0,rfl,Sl.nil,fun _=>rfl,fun _ h=>by cases h⟩,A5,c5,rfl,?_,fun a ha=>by have:=hA5 a ha;have:=de.size;omega⟩,ah jT (by rw[HB.out];exact af2 _) _⟩
        · exact ags rfl _ _ B 62 fs (0,0) _ rfl (agd _ _ _ _ _ _ pL.out) Tryz.underlying62 rfl th.out
        exact ml S5.out (fun a ha=>by have:=hA5 a ha;omega)
    have hk:aR S=none:=by rw[lf.out,if_neg me]
    have Hk:=aa hk;have hEI:((E:Int)==0)=false:=by simpa using me
    clear hk me;go_wp2_with (first|(go_at_call 38;(with_reducible refine(bR _).mono ?_);rintro e w' ⟨rfl,rfl⟩)|((with_reducible refine af6 ?s1 59 (.tmp 8) (.tmp 41) ?s2 w2.heap.size cs ?s3 ?s4 59 _ (af4 w2 _) fJ.out ?s6 mR.out ?_);(case s1=>rfl);(case s2=>rfl);(case s3=>rfl);(case s4=>rfl);(case s6=>exact kL.out);rw[agi];(refine(show w3=_ from pd.out)▸?_);rw[←YD.out]));exact⟨rfl,.inl ⟨rfl,Hk.out⟩,de⟩
   |some b=>
    have me:unE (some b)=0:=rfl;rw[me]
    have mE:b.length=33:=by
     have h1:=iH S b HU.out.symm;have h2:=tg.out;omega
    rw[show (some b).getD []=b from rfl] at ho;obtain⟨Ab,cb,rfl,OX,ads⟩:=aH ho;have hHR:=Tj.out;have HsB:=aa ho.sl
    have ME:Hid (∀a,Ab=some a→W0.heap.size≤a.block):=aa (fun a ha=>by
     obtain⟨A7,c7,e7,h7,_,h8⟩:=ho;injection e7 with e7 _ e9;subst e7 e9;obtain⟨g9,_,e8,kC,_⟩:=h8 (by rw[B8_length] at h7;omega);rw[e8] at ha;injection ha with ha;subst ha;exact kC)
    have HPu:Hid (∀X,Below wh.heap.size wh X→Calls Tryz.prog 67 #[.slice Ab 33 cb] X fun e W'=>e=.returned (.bool (iE b))∧Below X.heap.size X W'):=aa fun X hX=>by
     have h:=rE Ab cb b OX X ((HsB.out.below hX).mono hX.size);rw[mE] at h;exact h
    have YG:Hid (∀X,Below wh.heap.size wh X→Calls Tryz.prog 47 #[.slice Ab 33 cb] X fun e W'=>e=.returned (.string ⟨(eF b).toArray⟩)∧Below X.heap.size X W'):=aa fun X hX=>by
     have h:=IQ Ab cb b X ((HsB.out.below hX).mono hX.size) (by omega);rw[mE] at h;exact h
    have YH:Hid (aR S=if iE b&&decide (eF b=S) then some ⟨b,aP,[],false,false⟩ else none):=aa hHR;obtain⟨P,hP⟩:=ab (iE b);rw[←hP] at HPu YH;have zm:=aa mE;rw[mE];clear ho we Yz Tj me hHR hP OX ads mE;go_wp2_with fail;refine(HPu.out wh (af5 _ _)).mono ?_;rintro e w2 ⟨rfl,ez⟩;have dZ:=OS.trans (ez.mono OS.size);have oo:=aa ((ez.block B yi).trans FJ.out);have OT:B<w2.heap.size:=(af3.1 oo.out).1;have bt:Below wh.heap.size wh w2:=ez
    cases P with
    |false=>
     have Hk:=aa (show aR S=none by rw[YH.out];rfl);clear YH ez YG HPu;go_wp2_with (go_at_call 38;(with_reducible refine(bR _).mono ?_);rintro e w' ⟨rfl,rfl⟩);exact⟨rfl,.inl ⟨rfl,Hk.out⟩,dZ⟩
    |true=>
     go_wp2_with fail;refine(YG.out w2 bt).mono ?_;rintro e w3 ⟨rfl,vR⟩;have de:=dZ.trans (vR.mono dZ.size);have fo:=aa ((vR.block B OT).trans oo.out);have adt:=aa (((HsB.out.below bt).mono bt.size).below vR |>.mono vR.size);clear ez vR YG HPu bt
     by_cases hx:eF b=S
     · have EP:(⟨(eF b).toArray⟩:ByteArray)=s:=by rw[hx,HS.out]
       rw[EP];have Hk:=aa (show aR S=some ⟨b,aP,[],false,false⟩ by rw[YH.out,af9 hx];rfl);obtain⟨fs,rS⟩:∃fs,fs=(eS ⟨b,aP,[],false,false⟩ (.slice Ab 33 cb) aV).toArray:=⟨_,rfl⟩;have lR:fs.size=75:=by rw[rS];simp[aT (k:=⟨b,aP,[],false,false⟩) cI]
       have th:=aa (show (Tryz.prog.info? 62).map (·.size)=some fs.size by rw[lR];kernel_rfl);have KM:=aa (show dz.size=fs.size by rw[lR];exact eB);have Bb:=aa (show fs.all (·.oneCell')=true by rw[rS];exact ir _ _ _ rfl rfl);have MH:=aa (show Tryz.prog.built 62 [(0,.slice Ab 33 cb)]=some fs by rw[rS];exact AY b Ab 33 cb);have rT:=aa rS;clear hx EP rS lR YH;go_wp2_with (first|(go_at_call 38;(with_reducible refine(bg _).mono ?_);rintro e w' ⟨rfl,rfl⟩)|((with_reducible refine bQ ?_ 62 #[(0,.tmp 30)] ?_ fs ?_ ?_);rfl;rfl;exact MH.out)|((with_reducible refine af6 ?_ 62 (.tmp 2) (.tmp 31) ?_ B fs ?_ ?_ 62 _ fo.out th.out ?_ Bb.out ?_);rfl;rfl;rfl;rfl;exact KM.out))
       refine agf (v:=.agg fs) ?_ rfl ⟨.inr ⟨⟨b,aP,[],false,false⟩,.slice Ab 33 cb,aV,Hk.out,by rw[rT.out],⟨Ab,cb,by show Value.slice Ab 33 cb=.slice Ab b.length cb;rw[zm.out],?_,fun h0=>by have h1:b=[]:=h0;have:=zm.out;rw[h1] at this;simp at this,fun a ha=>by have:=ME.out a ha;have:=bL.size;omega⟩,none,0,rfl,Sl.nil,fun _ h=>by cases h⟩,ah de (by rw[HB.out];exact af2 _) _⟩
       · exact ags rfl _ _ B 62 fs (0,0) _ rfl (agd _ _ _ _ _ _ fo.out) Tryz.underlying62 rfl th.out
       exact ml adt.out (fun a ha=>by have:=ME.out a ha;have:=kM.out;omega)
     have EP:¬(⟨(eF b).toArray⟩:ByteArray)=s:=fun e=>hx (by
      have h1:=congrArg (fun x:ByteArray=>x.data.toList) e;simp only[] at h1;rw[HS.out,←h1])
     obtain⟨X,hX⟩:∃X,X=(⟨(eF b).toArray⟩:ByteArray):=⟨_,rfl⟩;rw[←hX] at EP⊢;have hxb:(X.toList==s.toList)=false:=beq_eq_false_iff_ne.2 (fun e=>EP (by rw[agt,agt] at e;rw[←AM X,←AM s,e]));have Hk:=aa (show aR S=none by rw[YH.out,af8 hx];rfl);clear hx hX YH EP;go_wp2_with (go_at_call 38;(with_reducible refine(bR _).mono ?_);rintro e w' ⟨rfl,rfl⟩);exact⟨rfl,.inl ⟨rfl,Hk.out⟩,de⟩
 have adr:¬(s.size:Int)=66:=by omega
 have hR:aR S=ij S:=by rw[aR,if_neg (by rw[tg.out];exact KJ)]
 have HR:=aa hR;clear hR KJ;go_enter Tryz.func39,Tryz.ntmps39;go_wp2_with fail;refine(show W0=_ from gJ.out)▸?_;rw[←HB.out] at eC kM⊢;obtain⟨C1,Ba⟩:∃C1,C1=(Lib.cut S [47]).1:=⟨_,rfl⟩;obtain⟨C2,BR⟩:∃C2,C2=(Lib.cut S [47]).2.1:=⟨_,rfl⟩;obtain⟨mo,YA⟩:∃mo,mo=(Lib.cut S [47]).2.2:=⟨_,rfl⟩;have VH:=AZ S [47];rw[←Ba,←BR] at VH;obtain⟨E,Mz⟩:∃E,E=(cM C1).1:=⟨_,rfl⟩;obtain⟨top,jX⟩:∃top,top=(cM C1).2:=⟨_,rfl⟩;have ht:top.Ok:=by rw[jX];exact ju C1
 have x4:aR S=if E=0 then (if mo=true then (bS top.priv (aK 47 C2)).map fun t=>⟨[],top,t.1,t.2.1,t.2.2⟩ else some (dm top)) else none:=by
  rw[HR.out,ij,←Ba,←BR,←YA,←Mz,←jX];rfl
 have lf:=aa x4;have hP:=vX ⟨C1.toArray⟩ (by show C1.toArray.size≤4096;have:=tg.out;simp;omega);simp only[] at hP;rw[←Mz,←jX] at hP;have HP:=aa hP;have YB:Hid ((⟨C2.toArray⟩:ByteArray).size≤4096):=aa (by show C2.toArray.size≤4096;have:=tg.out;simp;omega);have YC:=FH.out W0 (HE.out.below bL);rw[←Ba,←BR,←YA] at YC;have Hcu:=aa YC;obtain⟨cs,bB⟩:∃cs,cs=(ba top).toArray:=⟨_,rfl⟩;have dX:cs.size=71:=by rw[bB];simp[aI ht]
 have fJ:=aa (show (Tryz.prog.info? 59).map (·.size)=some cs.size by rw[dX];kernel_rfl);have kL:=aa (show kz.size=cs.size by rw[dX];rfl);have mR:=aa (show cs.all (·.oneCell')=true by rw[bB];exact jK top);obtain⟨ds,qk⟩:∃ds,ds=(eS (dm top) aV aV).toArray:=⟨_,rfl⟩;have ED:ds.size=75:=by rw[qk];simp[aT (k:=dm top) ht]
 have KK:=aa (show (Tryz.prog.info? 62).map (·.size)=some ds.size by rw[ED];kernel_rfl);have Tk:=aa (show dz.size=ds.size by rw[ED];exact eB);have Tl:=aa (show ds.all (·.oneCell')=true by rw[qk];exact ir _ _ _ rfl rfl);have MH:=aa (show Tryz.prog.built 62 [(1,.agg cs)]=some ds by rw[bB,qk];exact wR top ht);have Cu:=aa qk;have oX:=aa bB;have Ht:=aa ht;rw[←bB] at HP;clear Ba BR YA VH Mz jX ht x4 hP YC bB dX qk ED HR FH;refine Hcu.out.mono ?_;rintro e w1 ⟨rfl,dW⟩;have dy:=bL.trans (dW.mono bL.size);have ja:=aa ((dW.block B (by have:=kM.out;omega)).trans eC.out);have KL:B<w1.heap.size:=(af3.1 ja.out).1;clear dW Hcu;go_wp2_with fail;refine(HP.out w1).mono ?_;rintro e w2 ⟨rfl,ez⟩;have dZ:=dy.trans (ez.mono dy.size);have oo:=aa ((ez.block B KL).trans ja.out);have OT:B<w2.heap.size:=(af3.1 oo.out).1;obtain⟨w3,mf⟩:=ab (w2.alloc (.cells cs 59));obtain⟨g1,jd⟩:=ab w2.heap.size;have pd:=aa mf;have YD:=aa jd;have K3:Hid (w3.heap[g1]?=some (.cells cs 59 (0,0))):=aa (by rw[mf,jd];exact af4 w2 _);have de:Below w.heap.size w w3:=by rw[mf];exact dZ.alloc dZ.size _
 have fo:Hid (w3.heap[B]?=some (.cells dz 62 (0,0))):=aa (by rw[mf,Lib.alloc_old _ _ _ OT];exact oo.out);have OU:B<w3.heap.size:=(af3.1 fo.out).1;clear mf jd ez HP ja
 by_cases me:E=0
 · subst me
   obtain⟨w4,nE⟩:=ab (w3.alloc (.cells ds 62));obtain⟨g2,lv⟩:=ab w3.heap.size;have K4:Hid (w4.heap[g2]?=some (.cells ds 62 (0,0))):=aa (by rw[nE,lv];exact af4 w3 _);have lG:Below w.heap.size w w4:=by rw[nE];exact de.alloc de.size _
   have ic:Hid (w4.heap[B]?=some (.cells dz 62 (0,0))):=aa (by rw[nE,Lib.alloc_old _ _ _ OU];exact fo.out);have OV:=aa nE;have YE:=aa lv;clear nE lv
   cases mo
   ·
    go_wp2_with (first|(go_at_call 38;(with_reducible refine(bg _).mono ?_);rintro e w' ⟨rfl,rfl⟩)|((with_reducible refine af6 ?s1 59 (.tmp 8) (.tmp 41) ?s2 w2.heap.size cs ?s3 ?s4 59 _ (af4 w2 _) fJ.out ?s6 mR.out ?_);(case s1=>rfl);(case s2=>rfl);(case s3=>rfl);(case s4=>rfl);(case s6=>exact kL.out);rw[agi];(refine(show w3=_ from pd.out)▸?_);rw[←YD.out])|((with_reducible refine aga ?_ 59 (.tmp 8) ?_ g1 ?_ 59 cs (0,0) _ K3.out Tryz.underlying59 ?_ fJ.out ?_);rfl;rfl;rfl;rfl)|((with_reducible refine bQ ?_ 62 #[(1,.tmp 46)] ?_ ds ?_ ?_);rfl;rfl;exact MH.out)|((with_reducible refine af6 ?s1 62 (.tmp 10) (.tmp 47) ?s2 w3.heap.size ds ?s3 ?s4 62 _ (af4 w3 _) KK.out ?s6 Tl.out ?_);(case s1=>rfl);(case s2=>rfl);(case s3=>rfl);(case s4=>rfl);(case s6=>exact Tk.out);rw[agi];(refine(show w4=_ from OV.out)▸?_);rw[←YE.out])|((with_reducible refine aga ?_ 62 (.tmp 10) ?_ g2 ?_ 62 ds (0,0) _ K4.out Tryz.underlying62 ?_ KK.out ?_);rfl;rfl;rfl;rfl)|((with_reducible refine af6 ?_ 62 (.tmp 2) (.tmp 51) ?_ B ds ?_ ?_ 62 _ ic.out KK.out ?_ Tl.out ?_);rfl;rfl;rfl;rfl;exact Tk.out))
    have hk:aR S=some (dm top):=by rw[lf.out];simp
    refine agf (v:=.agg ds) ?_ rfl ⟨.inr ⟨dm top,aV,aV,hk,by rw[Cu.out],⟨none,0,rfl,Sl.nil,fun _=>rfl,fun _ h=>by cases h⟩,none,0,rfl,Sl.nil,fun _ h=>by cases h⟩,ah lG (by rw[HB.out];exact af2 _) _⟩;exact ags rfl _ _ B 62 ds (0,0) _ rfl (agd _ _ _ _ _ _ ic.out) Tryz.underlying62 rfl KK.out
   · have pE:Below w3.heap.size w3 w4:=by rw[OV.out];exact(af5 _ w3).alloc (af2 _) _
     have hK:=zk w3 (HE.out.below de) g2 (by rw[YE.out];exact af2 _) ⟨C2.toArray⟩ YB.out top Ht.out w4 pE (by rw[←Cu.out];exact K4.out);simp only[] at hK;have HKp:=aa hK;clear hK pE;go_wp2_with (first|(go_at_call 38;(with_reducible refine(bg _).mono ?_);rintro e w' ⟨rfl,rfl⟩)|((with_reducible refine af6 ?s1 59 (.tmp 8) (.tmp 41) ?s2 w2.heap.size cs ?s3 ?s4 59 _ (af4 w2 _) fJ.out ?s6 mR.out ?_);(case s1=>rfl);(case s2=>rfl);(case s3=>rfl);(case s4=>rfl);(case s6=>exact kL.out);rw[agi];(refine(show w3=_ from pd.out)▸?_);rw[←YD.out])|((with_reducible refine aga ?_ 59 (.tmp 8) ?_ g1 ?_ 59 cs (0,0) _ K3.out Tryz.underlying59 ?_ fJ.out ?_);rfl;rfl;rfl;rfl)|((with_reducible refine bQ ?_ 62 #[(1,.tmp 46)] ?_ ds ?_ ?_);rfl;rfl;exact MH.out)|((with_reducible refine af6 ?s1 62 (.tmp 10) (.tmp 47) ?s2 w3.heap.size ds ?s3 ?s4 62 _ (af4 w3 _) KK.out ?s6 Tl.out ?_);(case s1=>rfl);(case s2=>rfl);(case s3=>rfl);(case s4=>rfl);(case s6=>exact Tk.out);rw[agi];(refine(show w4=_ from OV.out)▸?_);rw[←YE.out]))
     refine HKp.out.mono ?_;rintro e w5 ⟨h5,eh⟩;have jT:=de.trans (eh.mono de.size);have pL:=aa ((eh.block B OU).trans fo.out);rcases h5 with ⟨rfl,OW⟩|⟨rfl,ns,r,h,A5,c5,OW,YF,hS5,hA5⟩
     · have hk:aR S=none:=by rw[lf.out];simp[OW]
       have Hk:=aa hk;clear hk OW eh;exact⟨rfl,.inl ⟨rfl,Hk.out⟩,jT⟩
     have hk:aR S=some ⟨[],top,ns,r,h⟩:=by rw[lf.out];simp[OW]
     have Hk:=aa hk;obtain⟨fs,rS⟩:∃fs,fs=(eS ⟨[],top,ns,r,h⟩ aV (.slice A5 ns.length c5)).toArray:=⟨_,rfl⟩;have lR:fs.size=75:=by rw[rS];simp[aT (k:=⟨[],top,ns,r,h⟩) Ht.out]
     have th:=aa (show (Tryz.prog.info? 62).map (·.size)=some fs.size by rw[lR];kernel_rfl);have KM:=aa (show dz.size=fs.size by rw[lR];exact eB);have Bb:=aa (show fs.all (·.oneCell')=true by rw[rS];exact ir _ _ _ rfl rfl);rw[←rS] at YF;have K5:=aa YF;have S5:=aa hS5;have rT:=aa rS;clear hk OW eh rS lR YF hS5;go_wp2_with (first|((with_reducible refine aga ?_ 62 (.tmp 10) ?_ g2 ?_ 62 fs (0,0) _ K5.out Tryz.underlying62 ?_ th.out ?_);rfl;rfl;rfl;rfl)|((with_reducible refine af6 ?_ 62 (.tmp 2) (.tmp 51) ?_ B fs ?_ ?_ 62 _ pL.out th.out ?_ Bb.out ?_);rfl;rfl;rfl;rfl;exact KM.out));refine agf (v:=.agg fs) ?_ rfl ⟨.inr ⟨⟨[],top,ns,r,h⟩,aV,.slice A5 ns.length c5,Hk.out,by rw[rT.out],⟨none,0,rfl,Sl.nil,fun _=>rfl,fun _ h=>by cases h⟩,A5,c5,rfl,?_,fun a ha=>by have:=hA5 a ha;have:=de.size;omega⟩,ah jT (by rw[HB.out];exact af2 _) _⟩
     · exact ags rfl _ _ B 62 fs (0,0) _ rfl (agd _ _ _ _ _ _ pL.out) Tryz.underlying62 rfl th.out
     exact ml S5.out (fun a ha=>by have:=hA5 a ha;omega)
 have hk:aR S=none:=by rw[lf.out,if_neg me]
 have Hk:=aa hk;have hEI:((E:Int)==0)=false:=by simpa using me
 clear hk me;go_wp2_with (first|(go_at_call 38;(with_reducible refine(bR _).mono ?_);rintro e w' ⟨rfl,rfl⟩)|((with_reducible refine af6 ?s1 59 (.tmp 8) (.tmp 41) ?s2 w2.heap.size cs ?s3 ?s4 59 _ (af4 w2 _) fJ.out ?s6 mR.out ?_);(case s1=>rfl);(case s2=>rfl);(case s3=>rfl);(case s4=>rfl);(case s6=>exact kL.out);rw[agi];(refine(show w3=_ from pd.out)▸?_);rw[←YD.out]));exact⟨rfl,.inl ⟨rfl,Hk.out⟩,de⟩
end Go.Proofs.YtcjioogololnoaaGreatDoor
namespace Go.Proofs.YtcjioogololnoaaGreatDoor
open Go Go.RowKit Go.Shelf
def ox (eT:List UInt8) (p:List (List UInt8)×List UInt8):List (List UInt8)×List UInt8:=
 match au p.2 eT with
 |some t=>(p.1++[eT],t)
 |none=>p
theorem jM {S eT t:List UInt8} (h:au S eT=some t):t.length≤S.length:=by
 unfold au at h;split at h
 · split at h
   · injection h with h
     rw[←h,agj,agD];omega
   cases h
 cases h
theorem tj (eT:List UInt8) (p:List (List UInt8)×List UInt8):(ox eT p).2.length≤p.2.length:=by
 unfold ox;split
 · next t h=>exact jM h
 exact af2 _
def jo (S:List UInt8):Nat→List (List UInt8)×List UInt8
 |0=>([],S)
 |1=>ox ik ([],S)
 |_+2=>ox cf (ox ik ([],S))
theorem KN (S:List UInt8):∀k,(jo S k).2.length≤S.length
 |0=>af2 _
 |1=>tj _ _
 |_+2=>agx (tj _ _) (tj _ _)
def VI:Nat→List UInt8
 |0=>ik
 |_+1=>cf
def rU:Nat→List UInt8
 |0=>eD
 |_+1=>ca
theorem FK (S:List UInt8) (k:Nat) (hk:k<2):jo S (k+1)=ox (VI k) (jo S k):=by
 match k,hk with
 |0,_=>rfl
 |1,_=>rfl
theorem OY (S:List UInt8):∀k,(jo S k).1.length≤2
 |0=>by simp[jo]
 |1=>by simp only[jo,ox];split<;>simp
 |_+2=>by simp only[jo,ox];split<;>(split<;>simp)
theorem FL (S:List UInt8):aQ S=b5 (jo S 2).1 ((jo S 2).1.contains cf) (jo S 2).2:=by
 unfold aQ;simp only[jo,ox]
 cases h1:au S ik with
 |none=>
  simp only[]
  cases h2:au S cf with
  |none=>rfl
  |some u=>rfl
 |some t=>
  simp only[]
  cases h2:au t cf with
  |none=>rfl
  |some u=>rfl
theorem u9 (l:List (List UInt8)) (x:List UInt8):ST l++[.string ⟨x.toArray⟩]=ST (l++[x]):=by rw[Kx];rfl
def DC (v:Value) (m:Int) (s:Bool) (kv:Value):Array Value:=#[v,.int .i64 m,.bool s,kv]
section
variable {w:World} {g:Nat} {v kv:Value} {m:Int} {s:Bool}
theorem Ds (h:w.heap[g]?=some (.cells (DC v m s kv) 48 (0,0))):w.cell? ⟨g,0,none⟩=some v:=by rw[agb _ _ _ _ _ _ h];rfl
theorem OZ (h:w.heap[g]?=some (.cells (DC v m s kv) 48 (0,0))):w.cell? ⟨g,3,none⟩=some kv:=by rw[agb _ _ _ _ _ _ h];rfl
theorem IX (h:w.heap[g]?=some (.cells (DC v m s kv) 48 (0,0))) (u:Value):(w.setCell ⟨g,0,none⟩ u).heap[g]?=some (.cells (DC u m s kv) 48 (0,0)):=heap_setCell_same w g 0 _ _ u h
theorem Tm (h:w.heap[g]?=some (.cells (DC v m s kv) 48 (0,0))) (u:Int):(w.setCell ⟨g,1,none⟩ (.int .i64 u)).heap[g]?=some (.cells (DC v u s kv) 48 (0,0)):=heap_setCell_same w g 1 _ _ _ h
theorem Tn (h:w.heap[g]?=some (.cells (DC v m s kv) 48 (0,0))) (u:Bool):(w.setCell ⟨g,2,none⟩ (.bool u)).heap[g]?=some (.cells (DC v m u kv) 48 (0,0)):=heap_setCell_same w g 2 _ _ _ h
theorem IY (h:w.heap[g]?=some (.cells (DC v m s kv) 48 (0,0))) (u:Value):(w.setCell ⟨g,3,none⟩ u).heap[g]?=some (.cells (DC v m s u) 48 (0,0)):=heap_setCell_same w g 3 _ _ u h
end
def qA (r:Option Nat) (v:Value):Prop:=∀A n c,v=.slice A n c→0<n→∀a,A=some a→some a.block≠r
def KS (W:World) (base lo:Nat) (kv:Value) (ks:List DKey):Prop:=
 ∃gb:List (DKey×Value×Value),gb.map (·.1)=ks∧(∀p∈gb,p.1.top.Ok∧KV W lo p.1 p.2.1 p.2.2∧qA kv.ownBlock p.2.1∧qA kv.ownBlock p.2.2)∧W.ownsRow base 62 75 kv gb.length (gb.flatMap fun p=>eS p.1 p.2.1 p.2.2)
def DA (W:World) (base g:Nat) (d:DDesc):Prop:=
 ∃v kv,W.heap[g]?=some (.cells (DC v d.m d.sorted kv) 48 (0,0))∧Ow W base 9 v (ST d.wraps)∧KS W base (g+1) kv d.keys
def RD (w0:World) (g:Nat) (S:List UInt8) (e:Ending) (W':World):Prop:=
 ((e=.panicked IN∧aQ S=none)∨(∃d,aQ S=some d∧e=.returned (.tuple #[])∧DA W' w0.heap.size g d))∧Below w0.heap.size w0 W'
theorem elT:El Tryz.prog 45 9 (.string ⟨#[]⟩) 16:=⟨Tryz.underlying45,by kernel_rfl,rfl⟩
theorem zn {w0 wr w3:World} {g G n c:Nat} {A:Option Addr} {xs:List Value} {o:Obj} (hbk:Below w0.heap.size w0 wr) (hg:w0.heap.size≤g) (hgG:g<G) (hG:G<wr.heap.size)
 (ho:Ow wr (G+1) 9 (.slice A n c) xs) (fl:(wr.alloc o).grownBy w3 (az (.slice A n c))):
 w3.heap[g]?=wr.heap[g]?∧w3.heap[G]?=wr.heap[G]?∧Below w0.heap.size w0 w3:=by
 have hk:∀j,j≤G→w3.heap[j]?=wr.heap[j]?:=fun j hj=>by
  rw[fl.block j (by rw[agn];omega) (fun e=>by have:=(ho.row j e.symm).1;omega),Lib.alloc_old _ _ _ (by omega)]
 exact⟨hk g (by omega),hk G (af2 _),bE hbk (af2 _) (ho.mono (by omega)) fl⟩
theorem Bc (A:Option Addr) (c:Nat) (ws:List (List UInt8)) (x:List UInt8) (w:World) (hs:Sl w w.heap.size A (ST ws)) (hn:ws.length≤1000):
 Calls Tryz.prog 37 #[.slice A ws.length c,.string ⟨x.toArray⟩] w fun e W'=>e=.returned (.bool (ws.contains x))∧w=W':=by
 by_cases h0:ws=[]
 · subst h0
   exact(Tryz.slices_Contains_string_empty A c ⟨x.toArray⟩ w).mono fun e W' h=>⟨h.1,h.2.symm⟩
 obtain⟨b,o,rfl,_,hc⟩:=hs (by rw[ST_length];exact List.length_pos_iff.2 h0);refine(Tryz.slices_Contains_string b o ws.length c (ws.map fun l=>⟨l.toArray⟩) ⟨x.toArray⟩ w (by simp) (by omega) (fun j hj=>?_)).mono fun e W' h=>⟨?_,h.2.symm⟩
 · have yG:j<ws.length:=by simpa using hj
   have h1:=hc j (by simpa using yG);rw[js] at h1;rw[h1,agB,List.getElem?_map,age yG];rfl
 rw[h.1,af7 (by simp)];congr 2;rw[Bool.eq_iff_iff,Lib.containsS_iff,List.contains_iff_mem,List.mem_map];constructor
 · rintro⟨l,hl,e⟩
   have e2:l.toArray=x.toArray:=congrArg ByteArray.data e;rw[←List.toArray_inj e2];exact hl
 intro h;exact⟨x,h,rfl⟩
def KO (ws:List (List UInt8)) (W:Bool) (wd t:List UInt8):Option DDesc:=
 if !W&&(decide (ws.length=0)||decide (wd=ca)) then (aR t).map fun k=>⟨ws++[wd],0,false,[k]⟩ else none
theorem To (ws:List (List UInt8)) (W:Bool) (T t:List UInt8) (k:Nat) (hk:k<2) (h0:∀j,j<k→au T (rU j)=none) (h:au T (rU k)=some t):b5 ws W T=KO ws W (rU k) t:=by
 match k,hk with
 |0,_=>
  have h':au T eD=some t:=h;show b5 ws W T=KO ws W eD t;unfold b5 KO;rw[h'];have e:ws.isEmpty=decide (ws.length=0):=by cases ws<;>rfl
  have h2:decide (eD=ca)=false:=by decide
  simp only[e,h2,Bool.or_false]
 |1,_=>
  have h':au T ca=some t:=h;have h2:au T eD=none:=h0 0 (by decide);unfold b5 KO;rw[h2,h'];simp only[rU,decide_true,Bool.or_true,Bool.and_true]
theorem Tp (ws:List (List UInt8)) (W:Bool) (T:List UInt8) (h0:∀j,j<2→au T (rU j)=none):b5 ws W T=match au T ec with
 |some t=>iI ws true t
 |none=>match au T fW with
  |some t=>iI ws false t
  |none=>none:=by
 have h1:au T eD=none:=h0 0 (by decide);have h2:au T ca=none:=h0 1 (by decide);unfold b5;rw[h1,h2];rfl
theorem KV.off {W:World} {lo:Nat} {k:DKey} {pv sv:Value} (h:KV W lo k pv sv):∀r,W.heap.size≤r→qA (some r) pv∧qA (some r) sv:=by
 obtain⟨⟨A,c,rfl,h2,h3,h6⟩,A',c',rfl,h5,h7⟩:=h
 have go:∀(A:Option Addr) (n c r:Nat) (xs:List Value),Sl W W.heap.size A xs→xs.length=n→W.heap.size≤r→qA (some r) (.slice A n c):=fun A n c r xs hs hl hr A2 n2 c2 e hn a ha e2=>by
  injection e with e1 e3 e4;subst e1 e3 e4 ha;obtain⟨b,o,e5,hb,_⟩:=hs (by omega);injection e5 with e5;subst e5;injection e2 with e2;simp only[] at e2;omega
 exact fun r hr=>⟨go A _ c r _ h2 (by simp) hr,go A' _ c' r _ h5 (by simp[cL]) hr⟩
theorem KV.grown {W W':World} {lo:Nat} {k:DKey} {pv sv:Value} {r:Option Nat} (h:KV W lo k pv sv) (hg:W.grownBy W' r) (h1:qA r pv) (h2:qA r sv):KV W' lo k pv sv:=by
 obtain⟨⟨A,c,rfl,h3,h4,h6⟩,A',c',rfl,h5,h7⟩:=h
 have go:∀(A:Option Addr) (n c:Nat) (xs:List Value),Sl W W.heap.size A xs→xs.length=n→qA r (.slice A n c)→Sl W' W'.heap.size A xs:=fun A n c xs hs hl ho hn=>by
  obtain⟨b,o,rfl,hb,hc⟩:=hs hn;refine⟨b,o,rfl,by have:=hg.size;omega,fun j hj=>?_⟩;rw[World.cell?_of_block (a:=⟨b,o+j,none⟩) (hg.block b hb (ho _ _ _ rfl (by omega) _ rfl))];exact hc j hj
 exact⟨⟨A,c,rfl,go A _ c _ h3 (by simp) h1,h4,h6⟩,A',c',rfl,go A' _ c' _ h5 (by simp[cL]) h2,h7⟩
theorem YI {W W5:World} {base lo:Nat} {k:DKey} {pv sv:Value} (hk:k.top.Ok) (gF:KV W lo k pv sv) (YJ:KV W5 lo k pv sv) (hB:base≤W5.heap.size) (cs:Array Value) (bB:cs=(eS k pv sv).toArray)
 (aF:W.heap[W5.heap.size]?=some (.cells cs 62 (0,0))):KS W base lo (.slice (some ⟨W5.heap.size,0,none⟩) 1 1) [k]:=
 ⟨[(k,pv,sv)],rfl,fun p hp=>by rw[agE] at hp;subst hp;exact⟨hk,gF,YJ.off _ (af2 _)⟩,by simp[aT hk],.inr ⟨W5.heap.size,1,cs,rfl,hB,aF,af2 _,by simp[maxLen],by rw[bB];simp[aT hk],by
  rw[bB];simp only[List.flatMap_cons,List.flatMap_nil,List.append_nil,agk];rw[af7 (by simp[aT hk])]⟩⟩
theorem YK (W:World) (base lo:Nat):KS W base lo aV []:=⟨[],rfl,fun p hp=>by simp at hp,W.ownsRow_nil base _ 75⟩
theorem KS.mono {W:World} {base nJ lo:Nat} {kv:Value} {ks:List DKey} (h:KS W base lo kv ks) (hb:nJ≤base):KS W nJ lo kv ks:=by
 obtain⟨gb,h1,h2,h3,h4⟩:=h;refine⟨gb,h1,h2,h3,?_⟩;rcases h4 with h4|⟨g,cap,cur,e,hg,r⟩
 · exact .inl h4
 exact .inr ⟨g,cap,cur,e,by omega,r⟩
theorem KS.below {W W':World} {base lo:Nat} {kv:Value} {ks:List DKey} (h:KS W base lo kv ks) (hb:Below W.heap.size W W'):KS W' base lo kv ks:=by
 obtain⟨gb,h1,h2,h3⟩:=h;refine⟨gb,h1,fun p hp=>⟨(h2 p hp).1,(h2 p hp).2.1.below hb,(h2 p hp).2.2⟩,h3.kept (row:=none) ⟨hb.os,hb.tape,hb.output,hb.size,fun k hk _=>hb.block k hk⟩ ?_⟩
 cases kv.ownBlock<;>simp
theorem KS.setCell {W:World} {base lo g:Nat} {kv:Value} {ks:List DKey} (h:KS W base lo kv ks) (hg:g<base) (hl:g<lo) (o:Nat) (u:Value):KS (W.setCell ⟨g,o,none⟩ u) base lo kv ks:=by
 obtain⟨gb,h1,h2,h3⟩:=h;refine⟨gb,h1,fun p hp=>⟨(h2 p hp).1,(h2 p hp).2.1.kept (by simp) (fun j hj _=>ago _ _ _ _ (show j≠g by omega)),(h2 p hp).2.2⟩,h3.1,?_⟩;rcases h3.2 with h4|⟨g',cap,cur,e,hg',hr,r⟩
 · exact .inl h4
 exact .inr ⟨g',cap,cur,e,hg',(ago _ _ _ _ (show g'≠g by omega)).trans hr,r⟩
theorem KS.push {P:Program} {w:World} {base lo:Nat} {kv:Value} {ks:List DKey} {k:DKey} {pv sv:Value} (h:KS w base lo kv ks) (hk:k.top.Ok) (gF:KV w lo k pv sv) (jc:qA kv.ownBlock pv) (nB:qA kv.ownBlock sv)
 (t ty:TypeId) (i:TypeInfo) (z:Value) (bytes:Nat) (ht:P.underlying t=some (.slice 62)) (hi:P.info? 62=some i) (hz:i.zero=some z) (hs:i.size=75) (hy:i.bytes=bytes) (Ih:z.cells.size=75)
 (EH:bytes≤4096) (g:Nat) (aF:w.heap[g]?=some (.cells (eS k pv sv).toArray 62 (0,0))) (hn:ks.length≤1000) (eJ:base≤w.heap.size):
 ∃v' w',(Builtin.append_ #[t,t] ty #[kv,.slice (some ⟨g,0,none⟩) 1 1]).run P w=.ok v' w'∧KS w' base lo v' (ks++[k])∧w.grownBy w' kv.ownBlock∧(∃A n c,v'=.slice A n c):=by
 obtain⟨gb,h1,h2,h3⟩:=h;have hl:gb.length=ks.length:=by rw[←h1];simp
 have nC:(gb.length+1)*bytes≤140737488355328:=agx (Nat.mul_le_mul (show gb.length+1≤1001 by omega) EH) (by decide)
 obtain⟨v',w',hr,ho,hg,_,hv⟩:=run_append_own_at (P:=P) w base t ty 62 i z 75 bytes ht hi hz hs hy Ih (by decide) kv gb.length _ h3 ⟨g,0,none⟩ 1 1 (eS k pv sv) (by rw[aT hk]) (fun j u hu=>by
  rw[fM,Nat.zero_add,agb _ _ _ _ _ _ aF,agr,hu]) (fun u hu=>by
  have:=List.all_eq_true.1 (by have:=ir k pv sv gF.one.1 gF.one.2;rwa [List.all_toArray] at this) u hu;exact this) (by simp[maxLen];omega) nC eJ
 refine⟨v',w',hr,?_,hg,?_⟩
 · have O0:∀(k':DKey) (Tq Tr:Value),KV w lo k' Tq Tr→qA kv.ownBlock Tq∧qA kv.ownBlock Tr→qA v'.ownBlock Tq∧qA v'.ownBlock Tr:=fun k' Tq Tr h' BX=>by
    rcases hv with hv|hv
    · rw[hv];exact BX
    rw[hv];exact h'.off _ (af2 _)
   refine⟨gb++[(k,pv,sv)],by simp[h1],fun p hp=>?_,?_⟩
   · rw[List.mem_append,agE] at hp
     rcases hp with hp|rfl
     · exact⟨(h2 p hp).1,(h2 p hp).2.1.grown hg (h2 p hp).2.2.1 (h2 p hp).2.2.2,O0 _ _ _ (h2 p hp).2.1 (h2 p hp).2.2⟩
     exact⟨hk,gF.grown hg jc nB,O0 _ _ _ gF ⟨jc,nB⟩⟩
   simpa using ho
 rcases ho.2 with ⟨e,_⟩|⟨g',cap,cur,e,_⟩
 · exact⟨_,_,_,e⟩
 exact⟨_,_,_,e⟩
theorem oy:∀(l:List (List UInt8)) (p:List UInt8) (ks:List DKey) (k:DKey),bJ l=some ks→aR p=some k→bJ (l++[p])=some (ks++[k])
 |[],p,ks,k,h,hk=>by
  obtain rfl:[]=ks:=by simpa [bJ] using h
  simp[bJ,hk]
 |x::l,p,ks,k,h,hk=>by
  rw[bJ] at h;rw[agw,bJ]
  cases hx:aR x with
  |none=>rw[hx] at h;cases h
  |some y=>
   rw[hx] at h;simp only[Option.map_eq_some_iff] at h;obtain⟨r,hr,rfl⟩:=h;simp only[];rw[oy l p r k hr hk];rfl
theorem oz:∀(l:List (List UInt8)) (p:List UInt8),p∈l→aR p=none→bJ l=none
 |[],p,h,_=>by cases h
 |x::l,p,h,hk=>by
  rw[bJ];rcases List.mem_cons.1 h with rfl|h
  · rw[hk]
  cases aR x with
  |none=>rfl
  |some y=>simp only[];rw[oz l p h hk];rfl
theorem qB:∀(l:List (List UInt8)) (ks:List DKey),bJ l=some ks→ks.length=l.length
 |[],ks,h=>by
  obtain rfl:[]=ks:=by simpa [bJ] using h
  rfl
 |x::l,ks,h=>by
  rw[bJ] at h
  cases hx:aR x with
  |none=>rw[hx] at h;cases h
  |some y=>
   rw[hx] at h;simp only[Option.map_eq_some_iff] at h;obtain⟨r,hr,rfl⟩:=h;simp[qB l r hr]
theorem Dt {S:List UInt8} {k:DKey} (h:aR S=some k):k.top.Ok:=by
 have tree:∀S:List UInt8,ij S=some k→k.top.Ok:=fun S h=>by
  simp only[ij] at h;split at h
  · split at h
    · rw[Option.map_eq_some_iff] at h
      obtain⟨t,_,rfl⟩:=h;exact ju _
    injection h with h;rw[←h];exact ju _
  cases h
 unfold aR at h;split at h
 · split at h
   · split at h
     · injection h with h
       rw[←h];exact cI
     cases h
   exact tree S h
 exact tree S h
section
variable {P:Program} {ops:Array Oper} {rest:List Oper} {o:Oper} {a:Act} {w:World} {Q:Exit→Act→World→Prop}
theorem O1 {s:Nat} (hs:0<s) (cs cells:Array Value) (h1:cs.size=s) (hn:cells.size=1*s):Instr.fill (fun i=>some (i*s,s)) cells [(0,.agg cs)]=some cs:=by
 have h:=Go.Great.fill_whole hs [.agg cs] cells (fun v hv=>by rw[agE] at hv;subst hv;exact h1) (by simpa using hn.symm);simpa [Value.cells] using h
theorem zo {K:Act→World→Prop} (t e:TypeId) (x:Operand) (s:Nat) (cs:Array Value) (ho:o.op=.buildSlice t 1 #[(0,x)]) (hu:P.underlying t=some (.slice e)) (hsz:(P.info? e).map (·.size)=some s)
 (hz:((P.info? e).bind (·.zero)).isSome=true) (hs:0<s) (vj:s≤2^24) (hx:a.eval x=.agg cs) (h1:cs.size=s)
 (h:K (a.put o.dst (.slice (some ⟨w.heap.size,0,none⟩) 1 1)) (w.alloc (.cells cs e))):o.wp P a w K Q:=by
 cases Pb:P.info? e with
 |none=>simp[Pb] at hsz
 |some ie=>
  simp only[Pb,Option.map_some,Option.some.injEq,Option.bind_some] at hsz hz;obtain⟨z,hzz⟩:=Option.isSome_iff_exists.1 hz;refine wp_buildSlice t e 1 #[(0,x)] ho cs ie z hu Pb hzz (by rw[hsz];omega) (by rw[hsz];omega) ?_ h
  rw[hsz,Array.toList_map];simp only[List.map_cons,List.map_nil,hx];exact O1 hs cs _ h1 (by simp)
theorem jD (hg:o.guard=none) (t e:TypeId) (x:Operand) (s:Nat) (cs:Array Value) (ho:o.op=.buildSlice t 1 #[(0,x)]) (dst:Option Tmp) (adu:o.dst=dst) (hu:P.underlying t=some (.slice e)) (hsz:(P.info? e).map (·.size)=some s)
 (hz:((P.info? e).bind (·.zero)).isSome=true) (hs:0<s) (vj:s≤2^24) (hx:a.eval x=.agg cs) (h1:cs.size=s)
 (h:wpList P ops Q rest (a.put dst (.slice (some ⟨w.heap.size,0,none⟩) 1 1)) (w.alloc (.cells cs e))):wpList P ops Q (o::rest) a w:=by
 subst adu;exact wpList_plain hg fun _ hK=>zo t e x s cs ho hu hsz hz hs vj hx h1 (hK _ _ h)
end
theorem Pc {w:World} {g:Nat} {v kv:Value} {m:Int} {s:Bool} (h:w.heap[g]?=some (.cells (DC v m s kv) 48 (0,0))):w.cell? ⟨g,1,none⟩=some (.int .i64 m):=by rw[agb _ _ _ _ _ _ h];rfl
theorem Ts {w:World} {g:Nat} {v kv:Value} {m:Int} {s:Bool} (h:w.heap[g]?=some (.cells (DC v m s kv) 48 (0,0))):w.cell? ⟨g,2,none⟩=some (.bool s):=by rw[agb _ _ _ _ _ _ h];rfl
def Pd (ws:List (List UInt8)) (US UM:Option (List UInt8)):Option DDesc:=
 match US with
 |some t=>iI ws true t
 |none=>match UM with
  |some t=>iI ws false t
  |none=>none
theorem Tt (ws:List (List UInt8)) (W:Bool) (T:List UInt8) (h0:∀j,j<2→au T (rU j)=none):b5 ws W T=Pd ws (au T ec) (au T fW):=Tp ws W T h0
def zp (ws:List (List UInt8)) (sorted:Bool) (ps:List (List UInt8)):Option DDesc:=
 match ps with
 |[]=>none
 |p::ps=>if 1≤ps.length∧ps.length≤16 then
  match zi p with
  |none=>none
  |some n=>if n≤ps.length then (bJ ps).map fun ks=>⟨ws,n,sorted,ks⟩ else none
  else none
theorem Pe (ws:List (List UInt8)) (sorted:Bool) (t:List UInt8):iI ws sorted t=zp ws sorted (aK 44 t):=rfl
theorem Du (ws:List (List UInt8)) (sorted:Bool) (ps:List (List UInt8)) (h:¬(2≤ps.length∧ps.length≤17)):zp ws sorted ps=none:=by
 cases ps with
 |nil=>rfl
 |cons p r=>rw[zp,if_neg (by simp only[agm] at h;omega)]
theorem KP (ws:List (List UInt8)) (sorted:Bool) (p:List UInt8) (r:List (List UInt8)) (h:2≤(p::r).length∧(p::r).length≤17):zp ws sorted (p::r)=match zi p with
 |none=>none
 |some n=>if n≤r.length then (bJ r).map fun ks=>⟨ws,n,sorted,ks⟩ else none:=by
 rw[zp,if_pos (by simp only[agm] at h;omega)]
section
variable {P:Program} {ops:Array Oper} {N:Nat}
theorem gg {i:Nat} {rest:List (Nat×Nat)} {o:Oper} {a:Act} {w:World} {Q:Exit→Act→World→Prop} (ho:ops[i]?=some o) (hg:Region.wanted o (yielded ops a.tmps)=true)
 (h:∀K:Act→World→Prop,(∀a' w',((N≤i∨Ext w w')∧ay P ops (Q .normal) (fun i K a w=>wpOp P ops Q i K a w) N rest a' w')→K a' w')→o.wp P a w K Q):
 ay P ops (Q .normal) (fun i K a w=>wpOp P ops Q i K a w) N ((i,2)::rest) a w:=by
 simp only[ay,show¬(2=0) by decide,show¬(2=1) by decide,if_false,wpOp,ho,hg,if_true];exact .inl (h _ (fun _ _ h=>h))
theorem Bd {i:Nat} {rest:List (Nat×Nat)} {o:Oper} {a:Act} {w:World} {Q:Exit→Act→World→Prop} (ho:ops[i]?=some o) (hg:Region.wanted o (yielded ops a.tmps)=false)
 (h:ay P ops (Q .normal) (fun i K a w=>wpOp P ops Q i K a w) N rest (a.put o.dst undef) w):
 ay P ops (Q .normal) (fun i K a w=>wpOp P ops Q i K a w) N ((i,2)::rest) a w:=by
 simp only[ay,show¬(2=0) by decide,show¬(2=1) by decide,if_false,wpOp,ho,hg,Bool.false_eq_true];exact⟨.inr (Ext.refl _),h⟩
end
theorem YL {p:List UInt8} {v:Int} (h:Lib.atoiAll p=.ok v):zi p=if Lib.itoa v=p∧1≤v then some v.toNat else none:=by
 rw[zi,h]
theorem YM {p:List UInt8} (h:∀v,Lib.atoiAll p≠ .ok v):zi p=none:=by
 unfold zi;split
 · next v hv=>exact absurd hv (h v)
 rfl
theorem j4 {P:Program} {ops:Array Oper} {N:Nat} {Q:Act→World→Prop} {st:Nat→(Act→World→Prop)→Act→World→Prop} {i:Nat} {rest:List (Nat×Nat)} {o:Oper} {a:Act} {w:World} (x y:Operand) (t t2:TypeId) (s1 s2:ByteArray) (b:Bool)
 (ho:ops[i]?=some o) (hw:Region.wanted o (yielded ops a.tmps)=true) (xX:o.op=.binOp .eql t x y t2) (hx:a.eval x=.string s1) (hy:a.eval y=.string s2) (hu:P.underlying t=some .string) (hb:(s1.toList==s2.toList)=b)
 (h:ay P ops Q st N rest (a.put o.dst (.bool b)) w):ay P ops Q st N ((i,0)::rest) a w:=by
 simp only[ay,if_true,ho];refine⟨.bool b,.inl ⟨hw,fun W _=>?_⟩,h⟩;unfold execOp;subst hb;simp only[xX,hx,hy];go_simp
 done
theorem abl:(Tryz.prog.info? 62).any (fun i=>i.size==75&&decide (i.bytes≤4096)&&(i.zero.any fun z=>z.cells.size==75))=true:=by kernel_rfl
theorem Pf {o:Oper} {a:Act} {w:World} {K:Act→World→Prop} {Q:Exit→Act→World→Prop} (s x:Operand) (ho:o.op=.call { callee:=.builtin .append,args:=#[s,x],argTypes:=#[46,46] })
 {base lo:Nat} {kv:Value} {ks:List DKey} {k:DKey} {pv sv:Value} (h:KS w base lo kv ks) (hk:k.top.Ok) (gF:KV w lo k pv sv) (jc:qA kv.ownBlock pv) (nB:qA kv.ownBlock sv)
 (g:Nat) (aF:w.heap[g]?=some (.cells (eS k pv sv).toArray 62 (0,0))) (hn:ks.length≤1000) (eJ:base≤w.heap.size) (hs:a.eval s=kv) (hx:a.eval x=.slice (some ⟨g,0,none⟩) 1 1)
 (hK:∀A n c w',KS w' base lo (.slice A n c) (ks++[k])→w.grownBy w' kv.ownBlock→K (a.put o.dst (.slice A n c)) w'):o.wp Tryz.prog a w K Q:=by
 have hi:=abl
 cases Pb:Tryz.prog.info? 62 with
 |none=>rw[Pb] at hi;cases hi
 |some i=>
  rw[Pb] at hi;simp only[Option.any_some,agz,beq_iff_eq,agy] at hi;obtain⟨⟨Tu,EH⟩,hz⟩:=hi
  cases YN:i.zero with
  |none=>rw[YN] at hz;cases hz
  |some z=>
   rw[YN] at hz;simp only[Option.any_some,beq_iff_eq] at hz;obtain⟨v',w',hr,h2,h3,A,n,c,rfl⟩:=h.push hk gF jc nB 46 o.type i z i.bytes Tryz.underlying46 Pb YN Tu rfl hz EH g aF hn eJ;unfold Oper.wp execOp;simp only[ho,resolve,invoke,builtin,Sem.run_bind,Sem.run_pure,Result.andThen_ok,List.map_toArray,List.map_cons,List.map_nil,hs,hx,hr];exact hK A n c w' h2 h3
theorem KV.offLo {W:World} {lo:Nat} {k:DKey} {pv sv:Value} (h:KV W lo k pv sv) (ro:Option Nat) (hr:∀r,ro=some r→r<lo):qA ro pv∧qA ro sv:=by
 obtain⟨⟨A,c,rfl,h2,h3,h6⟩,A',c',rfl,h5,h7⟩:=h
 have go:∀(A:Option Addr) (n c:Nat),(∀a,A=some a→lo≤a.block)→qA ro (.slice A n c):=fun A n c hl A2 n2 c2 e hn a ha e2=>by
  injection e with e1 e3 e4;subst e1;have h1:=hl a ha;have h2:=hr a.block e2.symm;omega
 exact⟨go A _ c h6,go A' _ c' h7⟩
end Go.Proofs.YtcjioogololnoaaGreatDoor

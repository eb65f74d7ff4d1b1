/- A part of the proof. -/
import Derived.Test.YtffohgbmjjbhiaaGreatA19
set_option linter.all false
section
namespace Go.Proofs.Z
open Go Go.Proofs
attribute [local simp] k_nil k_ops k_opsg kG_true kG_false kO_val kO_pan k_seq kS_n kS_r kS_e kS_p k_o kR_n kR_p kD2_n kD1_n k_d k_c kC_t kC_f k_b kB_n kB_r kB_p kB_e k_skip k_ret k_exit k_l kL_s kLp_n kLp_r kLp_e kLp_p k_f kF_n kF_r kF_p kV_f kV_t kN_s evOp evBin gOK opd opds lk put restr iEv evRes whole norm normL one Out.below below belowL bOb evStore evLoad evLen AV.cells AV.flat PV.flat splice fillAt pcs isStr rowsOf Res.of evCmp lvE leafEq asInt noIdAt noId noIdL tids chkOK
variable {pg:Prg}{G:Heap}
theorem s73_nn (h:Std pg){lev:Nat}{n:Net}{o1 o2:Int}:∃ tl,E pg 73 [.ag (wCs n o1 o2 .nils 0),.nils,.p (.i .i64 lev)] []=some (.ret (.ag (wCs n o1 o2 .nils 0)),tl):=by
 refine ⟨[.box (wCs n o1 o2 .nils 0),.box (wCs n o1 o2 .nils 0)],?_⟩
 rw[h.run (x:=c73) rfl (by decide) (by decide) (by decide) (by decide)]
 simp[c73,leave,wCs,gc,gcEnv,exp,expL,eOs,Exp.id,idxOf,List.range,List.range.loop]
 rw[k_L rfl]
 simp[c73l0,leave]
theorem s73_na (h:Std pg){lev:Nat}{n:Net}{o1 o2:Int}{l:List End}{g s:Nat}:∃ tl,E pg 73 [.ag (wCs n o1 o2 .nils 0),.arr 0 l.length g,.p (.i .i64 lev)] [.arr 3 (l.map End.enc) g s]=some (.ret (.ag (wCs n o1 o2 (.arr 0 l.length g) 0)),.arr 3 (l.map End.enc) g s::tl):=by
 refine ⟨[.box (wCs n o1 o2 (.arr 0 l.length g) 0),.box (wCs n o1 o2 (.arr 0 l.length g) 0)],?_⟩
 rw[h.run (x:=c73) rfl (by decide) (by decide) (by decide) (by decide)]
 simp[c73,leave,wCs,gc,gcEnv,exp,expL,eOs,Exp.id,idxOf,List.range,List.range.loop]
 rw[k_L rfl]
 simp[c73l0,leave]
theorem s73_0n (h:Std pg){lev:Nat}{n:Net}{o1 o2:Int}{g s:Nat}:∃ tl,E pg 73 [.ag (wCs n o1 o2 (.arr 0 0 g) 0),.nils,.p (.i .i64 lev)] [.arr 3 [] g s]=some (.ret (.ag (wCs n o1 o2 .nils 0)),.arr 3 [] g s::tl):=by
 refine ⟨[.box (wCs n o1 o2 .nils 0),.box (wCs n o1 o2 .nils 0)],?_⟩
 rw[h.run (x:=c73) rfl (by decide) (by decide) (by decide) (by decide)]
 simp[c73,leave,wCs,gc,gcEnv,exp,expL,eOs,Exp.id,idxOf,List.range,List.range.loop]
 rw[k_L rfl]
 simp[c73l0,leave]
theorem s73_0a (h:Std pg){lev:Nat}{n:Net}{o1 o2:Int}{l:List End}{gw s g t:Nat}:∃ tl,E pg 73 [.ag (wCs n o1 o2 (.arr 0 0 gw) 0),.arr 1 l.length g,.p (.i .i64 lev)] [.arr 3 [] gw s,.arr 3 (l.map End.enc) g t]=some (.ret (.ag (wCs n o1 o2 (.arr 1 l.length g) 0)),.arr 3 [] gw s::.arr 3 (l.map End.enc) g t::tl):=by
 refine ⟨[.box (wCs n o1 o2 (.arr 1 l.length g) 0),.box (wCs n o1 o2 (.arr 1 l.length g) 0)],?_⟩
 rw[h.run (x:=c73) rfl (by decide) (by decide) (by decide) (by decide)]
 simp[c73,leave,wCs,gc,gcEnv,exp,expL,eOs,Exp.id,idxOf,List.range,List.range.loop]
 rw[k_L rfl]
 simp[c73l0,leave]
theorem s73_an (h:Std pg){lev:Nat}{n:Net}{o1 o2:Int}{x:End}{r:List End}{gw:Nat}(hw:WI n)(hl:(x::r).length<2 ^ 17):∃ g tl,E pg 73 [.ag (wCs n o1 o2 (.arr 0 (x::r).length gw) 0),.nils,.p (.i .i64 lev)] [.arr 3 ((x::r).map End.enc) gw 0] =
  some (.ret (.ag (wCs (mergeGo lev n [] (x::r)).1 o1 o2 (.arr 1 (mergeGo lev n [] (x::r)).2.1.length g) (mergeGo lev n [] (x::r)).2.2)),.arr 3 ((x::r).map End.enc) gw 0::.arr 3 ((mergeGo lev n [] (x::r)).2.1.map End.enc) g 0::tl):=by
 obtain ⟨j,g',hL⟩:=n73 (body:=c73l0) h rfl (lev:=lev) (o1:=o1) (o2:=o2) (gw:=gw) x r n hw hl
 generalize mergeGo lev n [] (x::r)=R at *
 refine ⟨g',[.box (wCs R.1 o1 o2 (.arr 1 R.2.1.length g') R.2.2),.box (wCs R.1 o1 o2 (.arr 1 R.2.1.length g') R.2.2)],?_⟩
 simp only[wCs,zCells,List.map_cons]at hL ⊢
 try simp only[show ((0:Nat):Int)=0 from rfl]at hL
 rw[h.run (x:=c73) rfl (by decide) (by decide) (by decide) (by decide)]
 simp[c73,leave,gc,gcEnv,exp,expL,eOs,Exp.id,idxOf,List.range,List.range.loop]
 first|rw[hL]|(simp at hL;rw[hL])
 simp[leave]
theorem s73_aa (h:Std pg){lev:Nat}{n:Net}{o1 o2:Int}{x:End}{r l:List End}{gw g:Nat}(hw:WI n)(hl:(x::r).length<2 ^ 18)(hl2:l.length+(x::r).length<2 ^ 18):∃ g' tl,E pg 73 [.ag (wCs n o1 o2 (.arr 0 (x::r).length gw) 0),.arr 1 l.length g,.p (.i .i64 lev)] [.arr 3 ((x::r).map End.enc) gw 0,.arr 3 (l.map End.enc) g 0] =
  some (.ret (.ag (wCs (mergeGo lev n l (x::r)).1 o1 o2 (.arr 2 (mergeGo lev n l (x::r)).2.1.length g') (mergeGo lev n l (x::r)).2.2)),.arr 3 ((x::r).map End.enc) gw 0::.arr 3 (l.map End.enc) g l.length::.arr 3 ((mergeGo lev n l (x::r)).2.1.map End.enc) g' 0::tl):=by
 obtain ⟨j,g',hL⟩:=f73 (body:=c73l0) h rfl (lev:=lev) (o1:=o1) (o2:=o2) (gw:=gw) x r [] l n g hw hl hl2
 generalize mergeGo lev n l (x::r)=R at *
 refine ⟨g',[.box (wCs R.1 o1 o2 (.arr 2 R.2.1.length g') R.2.2),.box (wCs R.1 o1 o2 (.arr 2 R.2.1.length g') R.2.2)],?_⟩
 simp only[wCs,zCells,List.map_cons,List.nil_append,List.length_nil]at hL ⊢
 try simp only[show ((0:Nat):Int)=0 from rfl]at hL
 rw[h.run (x:=c73) rfl (by decide) (by decide) (by decide) (by decide)]
 simp[c73,leave,gc,gcEnv,exp,expL,eOs,Exp.id,idxOf,List.range,List.range.loop]
 first|rw[hL]|(simp at hL;rw[hL])
 simp[leave]
theorem at_keep {call:CallF}{f:Nat}{args args':List AV}{ids:List Nat}{objs os:Heap}{out:Out}(hk:keepA pg f=true)(he:expL true ⟨[],G⟩ args=some (args',⟨ids,G⟩))(ho:eOs (G.length+1) ⟨ids,G⟩ 0=some (objs,⟨ids,G⟩))(hc:call f args' objs=some (out,os)) :
  eCA pg call f args G=some (out.back ids G.length,setAll ids G.length G ids os++(os.drop ids.length).map (backObj ids G.length)):=by
 unfold eCA
 rw[hk,he]
 dsimp only
 rw[ho]
 dsimp only
 rw[hc]
theorem objs0 {k:Nat}:eOs (k+1) ⟨[],G⟩ 0=some ([],⟨[],G⟩):=by simp[eOs]
theorem objs1 {i a b c d:Nat}{rows:List (List PV)}(h1:G[i]?=some (.arr a rows c d)):eOs (G.length+1) ⟨[i],G⟩ 0=some ([.arr a rows c d],⟨[i],G⟩):=by
 obtain ⟨m,hm⟩:∃ m,G.length=m+1:=⟨G.length-1,by have:=(gE h1).1;omega⟩
 rw[hm]
 simp[eOs,h1]
theorem objs2 {i j a c d a' c' d':Nat}{rows rows':List (List PV)}(h1:G[i]?=some (.arr a rows c d))(h2:G[j]?=some (.arr a' rows' c' d'))(hij:i≠j):eOs (G.length+1) ⟨[i,j],G⟩ 0=some ([.arr a rows c d,.arr a' rows' c' d'],⟨[i,j],G⟩):=by
 obtain ⟨m,hm⟩:∃ m,G.length=m+2:=⟨G.length-2,by have:=(gE h1).1;have:=(gE h2).1;omega⟩
 rw[hm]
 simp[eOs,h1,h2]
def mergeW (lev:Nat)(w:W)(l:List End):W:=⟨(mergeGo lev w.n l w.l).1,w.out,(mergeGo lev w.n l w.l).2.1,(mergeGo lev w.n l w.l).2.2⟩
theorem t73 (h:Std pg){lev:Nat}{w:W}{v:List AV}{B O O2:Heap}{L2:AV}{l:List End}(hv:WV (B++O).length w v O2)(hL:EV B.length L2 O l)(he:w.e=0)(hw:WI w.n)(hl:w.l.length<2 ^ 17)(hl2:l.length<2 ^ 17) :
  ∃ v' O',eCA pg (E pg) 73 [.ag v,L2,.p (.i .i64 lev)] (B++O++O2)=some (.ret (.ag v'),B++O')∧WV B.length (mergeW lev w l) v' O':=by
 have k73:keepA pg 73=true:=h.keep (x:=c73) rfl
 obtain ⟨a,x,y,z,L,l1,rfl,h1,h2,h3⟩:=hv
 obtain ⟨q1,q2,q3,q4,q5⟩:=h3 he
 subst q1 q2 q3 q4 q5
 have hc:wv (.p (.sl (w.n.nodes.map Node.enc))) w.n.cap w.out.node w.out.slot L w.e=wCs w.n w.out.node w.out.slot L 0:=by rw[he];rfl
 rw[hc]
 have hback:∀ (ids:List Nat) (b:Nat) (n:Net) (o1 o2:Int) (L:AV) (e:Int),backL ids b (wCs n o1 o2 L e)=wCs n o1 o2 (Z.back ids b L) e:=fun ids b n o1 o2 L e=>by simp[wCs,Z.back,backL]
 have hsB:∀ (T:Heap) (k:Nat) (o:AObj),(B++T).set (k+B.length) o=B++T.set k o:=fun T k o=>by
  rw[List.set_append_right _ _ (by omega),Nat.add_sub_cancel]
 have hexp:∀ (L:AV) (e e':Exp) (L':AV),exp true e L=some (L',e')→∀ n o1 o2 c,exp true e (.ag (wCs n o1 o2 L c))=some (.ag (wCs n o1 o2 L' c),e'):=by
  intro L e e' L' hL n o1 o2 c
  simp[exp,expL,wCs,hL]
 have hlen:(B++O++O2).length=B.length+O.length+O2.length:=by simp[Nat.add_assoc]
 have hmk:∀ (n:Net) (L:AV) (e:Nat) (O':Heap) (l':List End),EV B.length L O' l'→WV B.length ⟨n,w.out,l',e⟩ (wCs n w.out.node w.out.slot L e) O':=fun n L e O' l' hE =>
  ⟨.p (.sl (n.nodes.map Node.enc)),n.cap,w.out.node,w.out.slot,L,l',rfl,.inr ⟨_,rfl⟩,hE,fun _=>⟨rfl,rfl,rfl,rfl,rfl⟩⟩
 rcases h2 with ⟨rfl,hl0⟩|⟨k,g,rfl,hk⟩
 ·have hm:mergeW lev w l=⟨w.n,w.out,l,0⟩:=by unfold mergeW;rw[hl0];rfl
  rw[hm]
  rcases hL with ⟨rfl,rfl⟩|⟨k2,g2,rfl,hk2⟩
  ·obtain ⟨tl,hs⟩:=s73_nn (lev:=lev) (n:=w.n) (o1:=w.out.node) (o2:=w.out.slot) h
   refine ⟨_,O++O2++tl.map (backObj [] (B++O++O2).length),?_,hmk w.n .nils 0 _ [] (.inl ⟨rfl,rfl⟩)⟩
   rw[at_keep k73 (args':=[.ag (wCs w.n w.out.node w.out.slot .nils 0),.nils,.p (.i .i64 lev)]) (ids:=[]) (by simp[exp,expL,wCs]) objs0 hs]
   simp[Out.back,hback,Z.back,setAll]
  ·have hG:(B++O++O2)[k2+B.length]?=some (.arr 3 (l.map End.enc) g2 0):=by
    have hlt:=(gE hk2).1
    rw[List.append_assoc,List.getElem?_append_right (by omega),Nat.add_sub_cancel,List.getElem?_append_left hlt,hk2]
   obtain ⟨tl,hs⟩:=s73_na (lev:=lev) (n:=w.n) (o1:=w.out.node) (o2:=w.out.slot) (l:=l) (g:=g2) (s:=0) h
   refine ⟨_,(O++O2).set k2 (.arr 3 (l.map End.enc) g2 0)++tl.map (backObj [k2+B.length] (B++O++O2).length),?_,hmk w.n (.arr (k2+B.length) l.length g2) 0 _ l (.inr ⟨k2,g2,rfl,?_⟩)⟩
   ·rw[at_keep k73 (args':=[.ag (wCs w.n w.out.node w.out.slot .nils 0),.arr 0 l.length g2,.p (.i .i64 lev)]) (ids:=[k2+B.length]) (by simp[exp,expL,wCs,Exp.id,idxOf]) (objs1 (b:=0) hG) hs]
    simp[Out.back,hback,Z.back,backId,setAll,backObj,hsB]
   ·have hlt:=(gE hk2).1
    rw[List.getElem?_append_left (by simp;omega),List.getElem?_set_self (by simp;omega)]
 ·have hkl:=(gE hk).1
  have hGa:(B++O++O2)[k+(B++O).length]?=some (.arr 3 (w.l.map End.enc) g 0):=by
   rw[List.getElem?_append_right (by omega),Nat.add_sub_cancel,hk]
  have hid:k+(B++O).length=(k+O.length)+B.length:=by simp;omega
  have hlO:(O++O2).length=O.length+O2.length:=by simp
  rcases hL with ⟨rfl,rfl⟩|⟨k2,g2,rfl,hk2⟩
  ·cases hwl:w.l with
   |nil =>
    have hm:mergeW lev w []=⟨w.n,w.out,[],0⟩:=by unfold mergeW;rw[hwl];rfl
    rw[hm]
    rw[hwl]at hGa
    obtain ⟨tl,hs⟩:=s73_0n (lev:=lev) (n:=w.n) (o1:=w.out.node) (o2:=w.out.slot) (g:=g) (s:=0) h
    refine ⟨_,(O++O2).set (k+O.length) (.arr 3 [] g 0)++tl.map (backObj [k+(B++O).length] (B++O++O2).length),?_,hmk w.n .nils 0 _ [] (.inl ⟨rfl,rfl⟩)⟩
    rw[at_keep k73 (args':=[.ag (wCs w.n w.out.node w.out.slot (.arr 0 0 g) 0),.nils,.p (.i .i64 lev)]) (ids:=[k+(B++O).length]) (by simp[exp,expL,wCs,Exp.id,idxOf]) (objs1 (b:=0) hGa) hs]
    rw[hid]
    simp[Out.back,hback,Z.back,backId,setAll,backObj,hsB]
   |cons x r =>
    have hm:mergeW lev w []=⟨(mergeGo lev w.n [] (x::r)).1,w.out,(mergeGo lev w.n [] (x::r)).2.1,(mergeGo lev w.n [] (x::r)).2.2⟩:=by unfold mergeW;rw[hwl]
    rw[hm]
    rw[hwl]at hGa hl
    obtain ⟨g',tl,hs⟩:=s73_an (lev:=lev) (o1:=w.out.node) (o2:=w.out.slot) (x:=x) (r:=r) (gw:=g) h hw hl
    generalize hR:mergeGo lev w.n [] (x::r)=R at *
    refine ⟨wCs R.1 w.out.node w.out.slot (.arr ((O.length+O2.length)+B.length) R.2.1.length g') R.2.2,(O++O2).set (k+O.length) (.arr 3 ((x::r).map End.enc) g 0)++(.arr 3 (R.2.1.map End.enc) g' 0::tl.map (backObj [k+(B++O).length] (B++O++O2).length)),?_,hmk R.1 _ R.2.2 _ R.2.1 (.inr ⟨O.length+O2.length,g',rfl,?_⟩)⟩
    ·rw[at_keep k73 (args':=[.ag (wCs w.n w.out.node w.out.slot (.arr 0 (x::r).length g) 0),.nils,.p (.i .i64 lev)]) (ids:=[k+(B++O).length]) (by simp[exp,expL,wCs,Exp.id,idxOf]) (objs1 (b:=0) hGa) hs]
     rw[hid]
     simp[Out.back,hback,Z.back,backId,setAll,backObj,hsB]
     rw[show B.length+(O.length+O2.length)=O.length+O2.length+B.length from by omega]
    ·rw[List.getElem?_append_right (by simp)]
     simp
  ·have hlt2:=(gE hk2).1
   have hGc:(B++O++O2)[k2+B.length]?=some (.arr 3 (l.map End.enc) g2 0):=by
    rw[List.append_assoc,List.getElem?_append_right (by omega),Nat.add_sub_cancel,List.getElem?_append_left hlt2,hk2]
   have hne:k+(B++O).length≠k2+B.length:=by simp;omega
   have hne':k+O.length≠k2:=by omega
   have hne2:¬ k+(B.length+O.length)=k2+B.length:=by omega
   cases hwl:w.l with
   |nil =>
    have hm:mergeW lev w l=⟨w.n,w.out,l,0⟩:=by unfold mergeW;rw[hwl];rfl
    rw[hm]
    rw[hwl]at hGa
    obtain ⟨tl,hs⟩:=s73_0a (lev:=lev) (n:=w.n) (o1:=w.out.node) (o2:=w.out.slot) (l:=l) (gw:=g) (s:=0) (g:=g2) (t:=0) h
    refine ⟨_,((O++O2).set (k+O.length) (.arr 3 [] g 0)).set k2 (.arr 3 (l.map End.enc) g2 0)++tl.map (backObj [k+(B++O).length,k2+B.length] (B++O++O2).length),?_,hmk w.n (.arr (k2+B.length) l.length g2) 0 _ l (.inr ⟨k2,g2,rfl,?_⟩)⟩
    ·rw[at_keep k73 (args':=[.ag (wCs w.n w.out.node w.out.slot (.arr 0 0 g) 0),.arr 1 l.length g2,.p (.i .i64 lev)]) (ids:=[k+(B++O).length,k2+B.length]) (by simp[exp,expL,wCs,Exp.id,idxOf,hne2]) (objs2 hGa hGc hne) hs]
     rw[hid]
     simp[Out.back,hback,Z.back,backId,setAll,backObj,hsB]
    ·rw[List.getElem?_append_left (by simp;omega),List.getElem?_set_self (by simp;omega)]
   |cons x r =>
    have hm:mergeW lev w l=⟨(mergeGo lev w.n l (x::r)).1,w.out,(mergeGo lev w.n l (x::r)).2.1,(mergeGo lev w.n l (x::r)).2.2⟩:=by unfold mergeW;rw[hwl]
    rw[hm]
    rw[hwl]at hGa hl
    obtain ⟨g',tl,hs⟩:=s73_aa (lev:=lev) (o1:=w.out.node) (o2:=w.out.slot) (x:=x) (r:=r) (l:=l) (gw:=g) (g:=g2) h hw (by omega) (by omega)
    generalize hR:mergeGo lev w.n l (x::r)=R at *
    refine ⟨wCs R.1 w.out.node w.out.slot (.arr ((O.length+O2.length)+B.length) R.2.1.length g') R.2.2,((O++O2).set (k+O.length) (.arr 3 ((x::r).map End.enc) g 0)).set k2 (.arr 3 (l.map End.enc) g2 l.length)++(.arr 3 (R.2.1.map End.enc) g' 0::tl.map (backObj [k+(B++O).length,k2+B.length] (B++O++O2).length)),?_,hmk R.1 _ R.2.2 _ R.2.1 (.inr ⟨O.length+O2.length,g',rfl,?_⟩)⟩
    ·rw[at_keep k73 (args':=[.ag (wCs w.n w.out.node w.out.slot (.arr 0 (x::r).length g) 0),.arr 1 l.length g2,.p (.i .i64 lev)]) (ids:=[k+(B++O).length,k2+B.length]) (by simp[exp,expL,wCs,Exp.id,idxOf,hne2]) (objs2 hGa hGc hne) hs]
     rw[hid]
     simp[Out.back,hback,Z.back,backId,setAll,backObj,hsB]
     rw[show B.length+(O.length+O2.length)=O.length+O2.length+B.length from by omega]
    ·rw[List.getElem?_append_right (by simp)]
     simp
end Go.Proofs.Z
end
section
namespace Go.Proofs.Z
inductive Ct where
 |var (i:Nat)
 |lam (b:Ct)
 |app (f a:Ct)
 |con (s:List UInt8) (l:List Ct)
 |case (h:Ct) (l:List Ct)
 |alt (s:List UInt8) (n:Nat) (b:Ct)
 |int (v:Int)
 |op (s:List UInt8) (a b:Ct)
 |fail
 deriving Inhabited
mutual
def Ct.tm:Ct→Tm
 |.var i=>.mk 1 i [] []
 |.lam b=>.mk 2 0 [] [b.tm]
 |.app f a=>.mk 3 0 [] [f.tm,a.tm]
 |.con s l=>.mk 4 0 s (Ct.tmL l)
 |.case h l=>.mk 5 0 [] (h.tm::Ct.tmL l)
 |.alt s n b=>.mk 6 n s [b.tm]
 |.int v=>.mk 7 v [] []
 |.op s a b=>.mk 8 0 s [a.tm,b.tm]
 |.fail=>.mk 9 0 [] []
def Ct.tmL:List Ct→List Tm
 |[]=>[]
 |a::r=>a.tm::Ct.tmL r
end
mutual
def Ct.size:Ct→Nat
 |.var _=>1
 |.lam b=>b.size+1
 |.app f a=>f.size+a.size+1
 |.con _ l=>Ct.sizeL l+1
 |.case h l=>h.size+Ct.sizeL l+1
 |.alt _ _ b=>b.size+1
 |.int _=>1
 |.op _ a b=>a.size+b.size+1
 |.fail=>1
def Ct.sizeL:List Ct→Nat
 |[]=>0
 |a::r=>a.size+Ct.sizeL r
end
def lamN (lev:Nat):Node:=⟨2,lev,0,[],[],[]⟩
def dropN (lev:Nat):Node:=⟨7,lev,0,[],[],[]⟩
def lower (l:List End):List End:=(l.filter fun e=>decide (0<e.v)).map fun e=>⟨e.v-1,e.p⟩
def closeW (lev m:Nat)(w:W):W:=match findE w.l 0 with
 |some i=>⟨(w.n.rlink w.out ⟨m,1⟩).rlink (w.l.getD i default).p ⟨m,2⟩,⟨m,0⟩,lower w.l,0⟩
 |none=>if ((w.n.rlink w.out ⟨m,1⟩).made (dropN lev)).2.2=0 then
   ⟨((w.n.rlink w.out ⟨m,1⟩).made (dropN lev)).1.rlink ⟨((w.n.rlink w.out ⟨m,1⟩).made (dropN lev)).2.1,0⟩ ⟨m,2⟩,⟨m,0⟩,lower w.l,0⟩
  else badW ((w.n.rlink w.out ⟨m,1⟩).made (dropN lev)).2.2
def lamsW (lev:Nat)(pb:Net→W):Nat→Net→W
 |0,n=>pb n
 |k+1,n=>if (n.made (lamN lev)).2.2=0 then
   (if (lamsW lev pb k (n.made (lamN lev)).1).e=0 then closeW lev (n.made (lamN lev)).2.1 (lamsW lev pb k (n.made (lamN lev)).1) else lamsW lev pb k (n.made (lamN lev)).1)
  else badW (n.made (lamN lev)).2.2
def partsW (lev m:Nat):List (Net→W)→List Nat→Net→List End→W
 |f::r,s::ss,n,l=>if (f n).e=0 then
   (if (mergeW lev ⟨(f n).n.rlink (f n).out ⟨m,s⟩,(f n).out,(f n).l,0⟩ l).e=0 then
    partsW lev m r ss (mergeW lev ⟨(f n).n.rlink (f n).out ⟨m,s⟩,(f n).out,(f n).l,0⟩ l).n (mergeW lev ⟨(f n).n.rlink (f n).out ⟨m,s⟩,(f n).out,(f n).l,0⟩ l).l
   else badW (mergeW lev ⟨(f n).n.rlink (f n).out ⟨m,s⟩,(f n).out,(f n).l,0⟩ l).e)
  else badW (f n).e
 |_,_,n,l=>⟨n,⟨0,0⟩,l,0⟩
def nodeW (x:Node)(fs:List (Net→W))(ss:List Nat)(out:Nat)(n:Net):W:=if (n.made x).2.2=0 then
  (if (partsW x.lev (n.made x).2.1 fs ss (n.made x).1 []).e=0 then { partsW x.lev (n.made x).2.1 fs ss (n.made x).1 [] with out:=⟨(n.made x).2.1,out⟩ } else partsW x.lev (n.made x).2.1 fs ss (n.made x).1 [])
 else badW (n.made x).2.2
def leafW (x:Node)(out:Nat)(l:Nat→List End)(n:Net):W:=⟨(n.made x).1,⟨(n.made x).2.1,out⟩,l (n.made x).2.1,(n.made x).2.2⟩
def altOf:Ct→List UInt8×Nat
 |.alt s n _=>(s,n)
 |_=>([],0)
mutual
def Ct.weave:Ct→Nat→Net→W
 |.var i,lev,n=>leafW ⟨5,lev,0,[],[],[]⟩ 1 (fun s=>[⟨i,⟨s,0⟩⟩]) n
 |.int v,lev,n=>leafW ⟨10,lev,v,[],[],[]⟩ 0 (fun _=>[]) n
 |.fail,lev,n=>leafW ⟨13,lev,0,[],[],[]⟩ 0 (fun _=>[]) n
 |.lam b,lev,n=>lamsW lev (b.weave lev) 1 n
 |.app f a,lev,n=>nodeW ⟨3,lev,0,[],[],[]⟩ [f.weave lev,fun n=>boxW lev (a.weave (lev+1) n)] [0,2] 1 n
 |.con s l,lev,n=>nodeW ⟨8,lev,0,s,[],List.replicate (l.length+1) ⟨0,0⟩⟩ (Ct.weaveB l lev) (List.range' 1 l.length) 0 n
 |.case h l,lev,n=>nodeW ⟨9,lev,0,[],l.map altOf,[]⟩ (h.weave lev::Ct.weaveA l lev) (0::List.range' 2 l.length) 1 n
 |.alt _ _ b,lev,n=>badW 999
 |.op s a b,lev,n=>nodeW ⟨11,lev,0,s,[],[]⟩ [a.weave lev,b.weave lev] [0,2] 1 n
def Ct.weaveB:List Ct→Nat→List (Net→W)
 |[],_=>[]
 |a::r,lev=>(fun n=>boxW lev (a.weave (lev+1) n))::Ct.weaveB r lev
def Ct.weaveA:List Ct→Nat→List (Net→W)
 |[],_=>[]
 |.alt _ k b::r,lev=>lamsW lev (b.weave lev) k::Ct.weaveA r lev
 |_::r,lev=>(fun _=>badW 999)::Ct.weaveA r lev
end
def net0 (most:Nat):Net:=⟨[⟨1,0,0,[],[],[⟨0,0⟩]⟩],most⟩
def Ct.net (t:Ct)(most:Nat):Net×Nat:=if (t.weave 0 (net0 most)).e=0 then ((t.weave 0 (net0 most)).n.rlink (t.weave 0 (net0 most)).out ⟨0,0⟩,0) else (⟨[],0⟩,(t.weave 0 (net0 most)).e)
end Go.Proofs.Z
end
section
namespace Go.Proofs.Z
open Go Go.Proofs
attribute [local simp] k_nil k_ops k_opsg kG_true kG_false kO_val kO_pan k_seq kS_n kS_r kS_e kS_p k_o kR_n kR_p kD2_n kD1_n k_d k_c kC_t kC_f k_b kB_n kB_r kB_p kB_e k_skip k_ret k_exit k_l kL_s kLp_n kLp_r kLp_e kLp_p k_f kF_n kF_r kF_p kV_f kV_t kN_s evOp evBin gOK opd opds lk put restr iEv evRes whole norm normL one Out.below below belowL bOb evStore evLoad evLen AV.cells AV.flat PV.flat splice fillAt pcs isStr rowsOf Res.of evCmp lvE leafEq asInt noIdAt noId noIdL tids chkOK
variable {pg:Prg}{G:Heap}
theorem ge0 {O T:Heap}{x:AObj}{n:Nat}(h:O.length=n):(O++x::T)[n]?=some x:=by subst h;simp
theorem ge1 {O T:Heap}{x y:AObj}{n:Nat}(h:O.length=n):(O++x::y::T)[n+1]?=some y:=by subst h;simp
theorem gs0 {O T:Heap}{x y:AObj}{n:Nat}(h:O.length=n):(O++x::T).set n y=O++y::T:=by subst h;simp
theorem gs1 {O T:Heap}{x y z:AObj}{n:Nat}(h:O.length=n):(O++x::y::T).set (n+1) z=O++x::z::T:=by subst h;simp
theorem lower_pos {x:End}{r:List End}(h:0<x.v):lower (x::r)=⟨x.v-1,x.p⟩::lower r:=by simp[lower,h]
theorem lower_neg {x:End}{r:List End}(h:¬ 0<x.v):lower (x::r)=lower r:=by simp[lower,h]
theorem l51 (h:Std pg){body:CCode}(hb:body=c51l0){r8:List AV}(he:∀ e,expL true e r8=some (r8,e)){n:Net}{o1 o2:Int}{l:List End}{gl sl:Nat}(hl:l.length<2 ^ 18)(hv:∀ e∈l,e.v<2 ^ 40):∀ m i (acc:List End) g,i+m=l.length→acc.length≤i →
  L pg 0 [8,11,16,17] body [(8,.ptr 0 0),(11,.ptr 1 0),(16,.arr 2 acc.length g),(17,.p (.i .i64 (i:Nat)))] [.box r8,.box (wCs n o1 o2 (.arr 3 l.length gl) 0),.arr 3 (acc.map End.enc) g 0,.arr 3 (l.map End.enc) gl sl] =
   some (.exit 0,[(8,.ptr 0 0),(11,.ptr 1 0),(16,.arr 2 (acc++lower (l.drop i)).length (g+(lower (l.drop i)).length)),(17,.p (.i .i64 l.length)),(99,.p (.b false))],
    [.box r8,.box (wCs n o1 o2 (.arr 3 l.length gl) 0),.arr 3 ((acc++lower (l.drop i)).map End.enc) (g+(lower (l.drop i)).length) 0,.arr 3 (l.map End.enc) gl sl])
 |0,i,acc,g,hi,ha=>by
  have:i=l.length:=by omega
  subst this
  rw[k_L hb]
  simp[c51l0,leave,wCs,lower]
 |m+1,i,acc,g,hi,ha=>by
  have hlt:i<l.length:=by omega
  have hd:l.drop i=l[i]::l.drop (i+1):=List.drop_eq_getElem_cons hlt
  have hE:l[i].enc=[iv l[i].v,iv l[i].p.node,iv l[i].p.slot]:=rfl
  have hv1:=hv l[i] (List.getElem_mem hlt)
  have r1:roomy (acc.length+1) 24=true:=by simp[roomy];omega
  have t1:List.take acc.length (acc.map End.enc)=acc.map End.enc:=List.take_of_length_le (by simp)
  have okr:∀ a b c:Int,okRow 3 [iv a,iv b,iv c]=true:=fun _ _ _=>rfl
  rw[k_L hb,hd]
  by_cases hz:0<l[i].v
  ·have hz':(0:Int)<l[i].v:=by omega
   have hw:IntKind.i64.wrap ((l[i].v:Int)-1)=((l[i].v-1:Nat):Int):=by rw[w64 _ (by omega) (by omega)];omega
   have hlow:lower (l[i]::l.drop (i+1))=⟨l[i].v-1,l[i].p⟩::lower (l.drop (i+1)):=lower_pos hz
   have ih:=l51 h hb he (n:=n) (o1:=o1) (o2:=o2) (gl:=gl) (sl:=sl) hl hv m (i+1) (acc++[⟨l[i].v-1,l[i].p⟩]) (g+1) (by omega) (by simp;omega)
   rw[show ((i+1:Nat):Int)=(i:Int)+1 from by omega]at ih
   rw[hlow]
   have hE2:End.enc ⟨l[i].v-1,l[i].p⟩=[iv (l[i].v-1:Nat),iv l[i].p.node,iv l[i].p.slot]:=rfl
   simp only[wCs,List.map_append,List.map_cons,List.map_nil,List.length_append,List.length_cons,List.length_nil,Nat.zero_add,hE2]at ih
   simp[c51l0,leave,wCs,hlt,hE,hz,hz',hw,okZ3,evOp.fillRows,evApp,normP,toPL,toP,okRows,okr,r1,t1,w64 ((i:Int)+1) (by omega) (by omega),gc,gcEnv,exp,expL,eOs,Exp.id,idxOf,List.range,List.range.loop,he,ih]
   rw[hE2]
   simp
   omega
  ·have hz':¬ (0:Int)<l[i].v:=by omega
   have hlow:lower (l[i]::l.drop (i+1))=lower (l.drop (i+1)):=lower_neg hz
   have ih:=l51 h hb he (n:=n) (o1:=o1) (o2:=o2) (gl:=gl) (sl:=sl) hl hv m (i+1) acc g (by omega) (by omega)
   rw[show ((i+1:Nat):Int)=(i:Int)+1 from by omega]at ih
   rw[hlow]
   simp only[wCs]at ih
   simp[c51l0,leave,wCs,hlt,hE,hz,hz',w64 ((i:Int)+1) (by omega) (by omega),gc,gcEnv,exp,expL,eOs,Exp.id,idxOf,List.range,List.range.loop,he,ih]
theorem l51n (h:Std pg){body:CCode}(hb:body=c51l0){r8:List AV}{n:Net}{o1 o2:Int}{g:Nat}:L pg 0 [8,11,16,17] body [(8,.ptr 0 0),(11,.ptr 1 0),(16,.arr 2 0 g),(17,.p (.i .i64 0))] [.box r8,.box (wCs n o1 o2 .nils 0),.arr 3 [] g 0] =
   some (.exit 0,[(8,.ptr 0 0),(11,.ptr 1 0),(16,.arr 2 0 g),(17,.p (.i .i64 0)),(99,.p (.b false))],[.box r8,.box (wCs n o1 o2 .nils 0),.arr 3 [] g 0]):=by
 rw[k_L hb]
 simp[c51l0,leave,wCs]
def GoodW (c:Nat)(w:W):Prop:=w.e=0→WI w.n∧w.l.length≤c∧∀ e∈w.l,e.v<2 ^ 40
def Weaves (pg:Prg)(f:Nat)(args:List AV)(w:W):Prop:=∃ v O,E pg f args []=some (.ret (.ag v),O)∧WV 0 w v O
theorem lam_ok {lev:Nat}(h:lev≤60):(lamN lev).ok=true:=Node.ok_mk (by omega) rfl (by omega) h (by simp) (by simp) (by omega)
theorem drop_ok {lev:Nat}(h:lev≤60):(dropN lev).ok=true:=Node.ok_mk (by omega) rfl (by omega) h (by simp) (by simp) (by omega)
theorem WV.bad (b e:Nat)(O:Heap)(he:e≠0):WV b (badW e) (badCells e) O:=⟨.nils,0,0,0,.nils,[],rfl,.inl rfl,.inl ⟨rfl,rfl⟩,fun h=>absurd h he⟩
theorem lower_len (l:List End):(lower l).length≤l.length:=by
 unfold lower;rw[List.length_map];exact List.length_filter_le _ _
theorem lower_v {l:List End}(h:∀ e∈l,e.v<2 ^ 40):∀ e∈lower l,e.v<2 ^ 40:=by
 intro e he
 unfold lower at he
 obtain ⟨x,hx,rfl⟩:=List.mem_map.1 he
 have:=h x ((List.mem_filter.1 hx).1)
 dsimp only;omega
theorem closeW_good {c lev m:Nat}{w:W}(h:GoodW c w)(he:w.e=0):GoodW c (closeW lev m w):=by
 obtain ⟨h1,h2,h3⟩:=h he
 unfold closeW
 split
 ·intro _
  exact ⟨(h1.rlink _ _).rlink _ _,Nat.le_trans (lower_len _) h2,lower_v h3⟩
 ·split
  ·intro _
   exact ⟨((h1.rlink _ _).made (by simp[dropN]) drop_ok).rlink _ _,Nat.le_trans (lower_len _) h2,lower_v h3⟩
  ·rename_i hh
   intro hb
   exact absurd hb hh
theorem lamsW_good {c lev:Nat}{pb:Net→W}(hp:∀ n,WI n→GoodW c (pb n)):∀ k n,WI n→GoodW c (lamsW lev pb k n)
 |0,n,hn=>hp n hn
 |k+1,n,hn=>by
  unfold lamsW
  split
  ·have:=lamsW_good (lev:=lev) hp k _ (hn.made (x:=lamN lev) (by simp[lamN]) lam_ok)
   split
   ·exact closeW_good this (by assumption)
   ·exact this
  ·rename_i hh
   intro hb
   exact absurd hb hh
theorem zero_s51 (h:Std pg){lev:Nat}{n:Net}{tk tn:Int}{ts:List UInt8}{tl:List (List PV)}{w:W}(hp:Weaves pg 37 [.ag [.p (.sl (n.nodes.map Node.enc)),.p (.i .i64 n.cap)],.ag [.p (.i .i64 tk),.p (.i .i64 tn),.p (.s ts),.p (.sl tl)],.p (.i .i64 lev)] w) :
  Weaves pg 51 [.ag [.p (.sl (n.nodes.map Node.enc)),.p (.i .i64 n.cap)],.ag [.p (.i .i64 tk),.p (.i .i64 tn),.p (.s ts),.p (.sl tl)],.p (.i .i64 0),.p (.i .i64 lev)] w:=by
 obtain ⟨v,O,hc,hv⟩:=hp
 obtain ⟨v',O',h1,h2⟩:=at_W (pg:=pg) (G:=[.box [.p (.sl (n.nodes.map Node.enc)),.p (.i .i64 n.cap)],.box [.p (.i .i64 tk),.p (.i .i64 tn),.p (.s ts),.p (.sl tl)],.box zCells]) hc hv rfl
 obtain ⟨a,x,y,z,L,l,rfl,q1,q2,q3⟩:=h2
 simp only[zCells]at h1
 have hfl:L.flat=true:=by rcases q2 with ⟨rfl,_⟩|⟨k,g,rfl,_⟩<;>rfl
 have hfa:a.flat=true:=by rcases q1 with rfl|⟨r,rfl⟩<;>rfl
 have hE:∀ b1 b2 b3:AObj,EV 0 L (b1::b2::b3::O') l:=by
  intro b1 b2 b3
  rcases q2 with ⟨rfl,rfl⟩|⟨k,g,rfl,hk⟩
  ·exact .inl ⟨rfl,rfl⟩
  ·exact .inr ⟨k+3,g,rfl,by simpa using hk⟩
 refine ⟨wv a x y z L w.e,.box [.p (.sl (n.nodes.map Node.enc)),.p (.i .i64 n.cap)]::.box [.p (.i .i64 tk),.p (.i .i64 tn),.p (.s ts),.p (.sl tl)]::.box (wv a x y z L w.e)::O',?_,⟨a,x,y,z,L,l,rfl,q1,hE _ _ _,q3⟩⟩
 rw[h.run (x:=c51) rfl (by decide) (by decide) (by decide) (by decide)]
 rcases q1 with rfl|⟨r,rfl⟩<;>rcases q2 with ⟨rfl,_⟩|⟨k,g,rfl,_⟩<;>simp only[wv]at h1 ⊢<;>simp[c51,leave,h1]
theorem s51 (h:Std pg){c lev:Nat}{pb:Net→W}{tk tn:Int}{ts:List UInt8}{tl:List (List PV)}(hc:c<2 ^ 17)(hg:∀ n,WI n→GoodW c (pb n))(hp:∀ n,WI n→Weaves pg 37 [.ag [.p (.sl (n.nodes.map Node.enc)),.p (.i .i64 n.cap)],.ag [.p (.i .i64 tk),.p (.i .i64 tn),.p (.s ts),.p (.sl tl)],.p (.i .i64 lev)] (pb n)) :
  ∀ (k:Nat) (n:Net),k<2 ^ 30→WI n→Weaves pg 51 [.ag [.p (.sl (n.nodes.map Node.enc)),.p (.i .i64 n.cap)],.ag [.p (.i .i64 tk),.p (.i .i64 tn),.p (.s ts),.p (.sl tl)],.p (.i .i64 k),.p (.i .i64 lev)] (lamsW lev pb k n)
 |0,n,hk,hn=>zero_s51 h (hp n hn)
 |k+1,n,hk,hn=>by
  have e50:=fun G=>t50s (G:=G) (k:=2) (K:=2) (lev:=lev) h rfl hn (by omega) lam_ok
  have hwm:=hn.made (x:=lamN lev) (by simp[lamN]) lam_ok
  have hcm:=Net.made_cap n (lamN lev)
  rw[show (⟨2,lev,0,[],[],[]⟩:Node)=lamN lev from rfl]at e50
  have hw51:IntKind.i64.wrap (k:Int)=k:=w64 _ (by omega) (by omega)
  unfold lamsW
  generalize hR:n.made (lamN lev)=R at *
  obtain ⟨m,s,err⟩:=R
  dsimp only at hwm hcm ⊢
  have hk0:¬ ((k:Int)+1)=0:=by omega
  by_cases he:err=0
  ·subst he
   rw[if_pos rfl]
   have ih:=s51 h hc hg hp k m (by omega) hwm
   have hgw:=lamsW_good (lev:=lev) hg k m hwm
   generalize hw0:lamsW lev pb k m=w at *
   obtain ⟨v,O,hcl,hv⟩:=ih
   obtain ⟨v',O',h1,h2⟩:=at_W (pg:=pg) (G:=[.box [.p (.sl (m.nodes.map Node.enc)),.p (.i .i64 m.cap)],.box [.p (.i .i64 tk),.p (.i .i64 tn),.p (.s ts),.p (.sl tl)],.box zCells]) hcl hv rfl
   obtain ⟨a,x,y,z,L,l,rfl,q1,q2,q3⟩:=h2
   simp only[zCells,hcm]at h1
   by_cases hwe:w.e=0
   ·rw[if_pos hwe]
    obtain ⟨rfl,rfl,rfl,rfl,rfl⟩:=q3 hwe
    obtain ⟨g1,g2,g3⟩:=hgw hwe
    have e38:=fun G=>t38 (G:=G) (p:=w.out) (q:=⟨s,1⟩) h g1.tiny
    have hcl:=Net.rlink_cap w.n w.out ⟨s,1⟩
    have hw1:=g1.rlink w.out ⟨s,1⟩
    have hcW:closeW lev s w=match findE w.l 0 with
     |some i=>⟨(w.n.rlink w.out ⟨s,1⟩).rlink (w.l.getD i default).p ⟨s,2⟩,⟨s,0⟩,lower w.l,0⟩
     |none=>if ((w.n.rlink w.out ⟨s,1⟩).made (dropN lev)).2.2=0 then
       ⟨((w.n.rlink w.out ⟨s,1⟩).made (dropN lev)).1.rlink ⟨((w.n.rlink w.out ⟨s,1⟩).made (dropN lev)).2.1,0⟩ ⟨s,2⟩,⟨s,0⟩,lower w.l,0⟩
      else badW ((w.n.rlink w.out ⟨s,1⟩).made (dropN lev)).2.2:=rfl
    rw[hcW]
    generalize hn1:w.n.rlink w.out ⟨s,1⟩=n1 at *
    have d50:=fun G=>t50s (G:=G) (k:=7) (K:=7) (lev:=lev) h rfl hw1 (by omega) drop_ok
    have hwd:=hw1.made (x:=dropN lev) (by simp[dropN]) drop_ok
    have hcd:=Net.made_cap n1 (dropN lev)
    rw[show (⟨7,lev,0,[],[],[]⟩:Node)=dropN lev from rfl]at d50
    generalize hD:n1.made (dropN lev)=D at *
    obtain ⟨nd,sd,ed⟩:=D
    dsimp only at hwd hcd ⊢
    have f38:=fun G=>t38 (G:=G) (p:=⟨sd,0⟩) (q:=⟨s,2⟩) h hwd.tiny
    have hcf:=Net.rlink_cap nd ⟨sd,0⟩ ⟨s,2⟩
    rw[hcd,hcl]at hcf
    rw[hcl]at hcd
    simp only[hcl,hcd,hcf]at e38 f38 d50
    generalize hn2:nd.rlink ⟨sd,0⟩ ⟨s,2⟩=n2 at *
    rcases q2 with ⟨rfl,hl0⟩|⟨k',g,rfl,hk'⟩
    ·have e71:∀ G,eCA pg (E pg) 71 [.nils,.p (.i .i64 0)] G=some (.ret (.p (.i .i64 (-1))),G):=fun G=>t71n (v:=0) h
     rw[hl0]
     rw[show findE [] 0=none from rfl]
     dsimp only
     by_cases hed:ed=0
     ·subst hed
      rw[if_pos rfl]
      have hL:=l51n (body:=c51l0) h rfl (r8:=zCells) (n:=n2) (o1:=s) (o2:=0) (g:=0)
      refine ⟨wCs n2 s 0 (.arr 2 0 0) 0,[.box (wCs n2 s 0 (.arr 2 0 0) 0),.box (wCs n2 s 0 (.arr 2 0 0) 0),.arr 3 [] 0 0],?_,⟨_,_,_,_,_,[],rfl,.inr ⟨_,rfl⟩,.inr ⟨2,0,rfl,rfl⟩,fun _=>⟨rfl,rfl,rfl,rfl,rfl⟩⟩⟩
      rw[h.run (x:=c51) rfl (by decide) (by decide) (by decide) (by decide)]
      simp only[wv,mkOut,wCs,zCells,hcf,hwe,show ((0:Nat):Int)=0 from rfl,show ((1:Nat):Int)=1 from rfl,show ((2:Nat):Int)=2 from rfl]at h1 e50 e38 d50 f38 hL ⊢
      simp[c51,leave,e50,hcm,hk0,hw51,h1,ge0,gs0,ge1,gs1,e38,hcl,t39 h,k39 h,noIdAt,noId,noIdL,e71,d50,f38,hcd,hcf,okZ3,evOp.fillRows,gc,gcEnv,exp,expL,eOs,Exp.id,idxOf,List.range,List.range.loop]
      rw[hL]
      simp[leave]
     ·have hed':¬ (ed:Int)=0:=by omega
      rw[if_neg hed]
      refine ⟨badCells ed,.box [.p (.sl (m.nodes.map Node.enc)),.p (.i .i64 n.cap)]::.box [.p (.i .i64 tk),.p (.i .i64 tn),.p (.s ts),.p (.sl tl)]::.box (badCells ed)::(O'++[.box (wCs n1 s 0 .nils 0),.box [.p (.sl (nd.nodes.map Node.enc)),.p (.i .i64 w.n.cap)],.box (badCells ed)]),?_,.bad 0 ed _ hed⟩
      rw[h.run (x:=c51) rfl (by decide) (by decide) (by decide) (by decide)]
      simp only[wv,mkOut,wCs,zCells,badCells,hcf,hwe,show ((0:Nat):Int)=0 from rfl,show ((1:Nat):Int)=1 from rfl,show ((2:Nat):Int)=2 from rfl]at h1 e50 e38 d50 f38 ⊢
      simp[c51,leave,e50,hcm,hk0,hw51,h1,ge0,gs0,ge1,gs1,e38,hcl,t39 h,k39 h,noIdAt,noId,noIdL,e71,d50,f38,hcd,hcf,hed,hed',t70 h,badCells]
    ·have hkl:=(gE hk').1
     have hne1:¬ O'.length=k':=by omega
     have hne2:¬ O'.length+1=k':=by omega
     have hne3:¬ O'.length+1+1=k':=by omega
     have e71:=t71a (G:=.box [.p (.sl (m.nodes.map Node.enc)),.p (.i .i64 n.cap)]::.box [.p (.i .i64 tk),.p (.i .i64 tn),.p (.s ts),.p (.sl tl)]::.box zCells::(O'++[.box (wCs n1 s 0 (.arr (k'+3) w.l.length g) 0)])) (id:=k'+3) (g:=g) (s:=0) (v:=0) (l:=w.l) h (by omega) (by
      simp only[List.getElem?_cons_succ]
      rw[List.getElem?_append_left hkl,hk'])
     simp only[List.set_cons_succ,wCs,hcl]at e71
     rw[List.set_append_left _ _ hkl]at e71
     have hO2:(O'.set k' (.arr 3 (w.l.map End.enc) g (Nat.max 0 w.l.length))).length=O'.length:=by simp
     have hk2:∀ T,(O'.set k' (.arr 3 (w.l.map End.enc) g (Nat.max 0 w.l.length))++T)[k']?=some (.arr 3 (w.l.map End.enc) g (Nat.max 0 w.l.length)):=fun T=>by
      rw[List.getElem?_append_left (by simpa using hkl),List.getElem?_set_self hkl]
     generalize O'.set k' (.arr 3 (w.l.map End.enc) g (Nat.max 0 w.l.length))=O2 at *
     have hmax:Nat.max 0 w.l.length=w.l.length:=Nat.max_eq_right (Nat.zero_le _)
     rw[hmax]at hk2
     have hkO:∀ T,(O'++T)[k']?=some (.arr 3 (w.l.map End.enc) g 0):=fun T=>by rw[List.getElem?_append_left hkl,hk']
     cases hf:findE w.l 0 with
     |some i =>
      rw[hf]at e71
      obtain ⟨hi,_,_⟩:=List.findIdx?_eq_some_iff_getElem.1 hf
      have hgd:w.l.getD i default=w.l[i]:=by rw[List.getD_eq_getElem?_getD,gG hi];rfl
      dsimp only
      rw[hgd]
      have p38:=fun G=>t38 (G:=G) (p:=w.l[i].p) (q:=⟨s,2⟩) h hw1.tiny
      have hcp:=Net.rlink_cap n1 w.l[i].p ⟨s,2⟩
      rw[hcl]at hcp
      simp only[hcl,hcp]at p38
      generalize hn3:n1.rlink w.l[i].p ⟨s,2⟩=n3 at *
      have hL:=l51 (body:=c51l0) h rfl (r8:=zCells) (fun e=>by simp[zCells,expL,exp]) (n:=n3) (o1:=s) (o2:=0) (l:=w.l) (gl:=g) (sl:=w.l.length) (by omega) g3 w.l.length 0 [] 0 (by omega) (by simp)
      have hgi:(List.map End.enc w.l)[i]?=some [iv w.l[i].v,iv w.l[i].p.node,iv w.l[i].p.slot]:=by rw[List.getElem?_map,gG hi];rfl
      have hi2:(i:Int)<w.l.length:=by omega
      have hi3:(0:Int)≤i:=by omega
      refine ⟨wCs n3 s 0 (.arr 2 (lower w.l).length (lower w.l).length) 0,[.box (wCs n3 s 0 (.arr 2 (lower w.l).length (lower w.l).length) 0),.box (wCs n3 s 0 (.arr 2 (lower w.l).length (lower w.l).length) 0),.arr 3 ((lower w.l).map End.enc) (lower w.l).length 0,.arr 3 (w.l.map End.enc) g w.l.length],?_,⟨_,_,_,_,_,lower w.l,rfl,.inr ⟨_,rfl⟩,.inr ⟨2,_,rfl,rfl⟩,fun _=>⟨rfl,rfl,rfl,rfl,rfl⟩⟩⟩
      rw[h.run (x:=c51) rfl (by decide) (by decide) (by decide) (by decide)]
      simp only[wv,mkOut,wCs,zCells,hcp,hwe,idxInt,List.drop_zero,List.nil_append,List.length_nil,List.map_nil,Nat.zero_add,show ((0:Nat):Int)=0 from rfl,show ((1:Nat):Int)=1 from rfl,show ((2:Nat):Int)=2 from rfl]at h1 e50 e38 p38 hL e71 ⊢
      simp only[List.length_cons,List.length_nil,Nat.zero_add]at h1
      simp[c51,leave,e50,hcm,hk0,hw51,h1,ge0,gs0,ge1,gs1,hO2,hk2,e38,hcl,t39 h,k39 h,noIdAt,noId,noIdL,e71,p38,hcp,hi,hi2,hi3,hgi,End.enc,okZ3,evOp.fillRows,gc,gcEnv,exp,expL,eOs,Exp.id,idxOf,List.range,List.range.loop,hne1,hne2,hne3]
      rw[hL]
      simp[leave]
     |none =>
      rw[hf]at e71
      dsimp only
      by_cases hed:ed=0
      ·subst hed
       rw[if_pos rfl]
       have hL:=l51 (body:=c51l0) h rfl (r8:=zCells) (fun e=>by simp[zCells,expL,exp]) (n:=n2) (o1:=s) (o2:=0) (l:=w.l) (gl:=g) (sl:=w.l.length) (by omega) g3 w.l.length 0 [] 0 (by omega) (by simp)
       refine ⟨wCs n2 s 0 (.arr 2 (lower w.l).length (lower w.l).length) 0,[.box (wCs n2 s 0 (.arr 2 (lower w.l).length (lower w.l).length) 0),.box (wCs n2 s 0 (.arr 2 (lower w.l).length (lower w.l).length) 0),.arr 3 ((lower w.l).map End.enc) (lower w.l).length 0,.arr 3 (w.l.map End.enc) g w.l.length],?_,⟨_,_,_,_,_,lower w.l,rfl,.inr ⟨_,rfl⟩,.inr ⟨2,_,rfl,rfl⟩,fun _=>⟨rfl,rfl,rfl,rfl,rfl⟩⟩⟩
       rw[h.run (x:=c51) rfl (by decide) (by decide) (by decide) (by decide)]
       simp only[wv,mkOut,wCs,zCells,hcf,hwe,idxInt,List.drop_zero,List.nil_append,List.length_nil,List.map_nil,Nat.zero_add,show ((0:Nat):Int)=0 from rfl,show ((1:Nat):Int)=1 from rfl,show ((2:Nat):Int)=2 from rfl]at h1 e50 e38 f38 d50 hL e71 ⊢
       simp only[List.length_cons,List.length_nil,Nat.zero_add]at h1
       simp[c51,leave,e50,hcm,hk0,hw51,h1,ge0,gs0,ge1,gs1,hO2,hk2,e38,hcl,t39 h,k39 h,noIdAt,noId,noIdL,e71,f38,d50,hcf,hcd,okZ3,evOp.fillRows,gc,gcEnv,exp,expL,eOs,Exp.id,idxOf,List.range,List.range.loop,hne1,hne2,hne3]
       rw[hL]
       simp[leave]
      ·have hed':¬ (ed:Int)=0:=by omega
       rw[if_neg hed]
       refine ⟨badCells ed,.box [.p (.sl (m.nodes.map Node.enc)),.p (.i .i64 n.cap)]::.box [.p (.i .i64 tk),.p (.i .i64 tn),.p (.s ts),.p (.sl tl)]::.box (badCells ed)::(O2++[.box (wCs n1 s 0 (.arr (k'+3) w.l.length g) 0),.box [.p (.sl (nd.nodes.map Node.enc)),.p (.i .i64 w.n.cap)],.box (badCells ed)]),?_,.bad 0 ed _ hed⟩
       rw[h.run (x:=c51) rfl (by decide) (by decide) (by decide) (by decide)]
       simp only[wv,mkOut,wCs,zCells,badCells,hcf,hwe,idxInt,show ((0:Nat):Int)=0 from rfl,show ((1:Nat):Int)=1 from rfl,show ((2:Nat):Int)=2 from rfl]at h1 e50 e38 d50 f38 e71 ⊢
       simp only[List.length_cons,List.length_nil,Nat.zero_add]at h1
       simp[c51,leave,e50,hcm,hk0,hw51,h1,ge0,gs0,ge1,gs1,hO2,hk2,e38,hcl,t39 h,k39 h,noIdAt,noId,noIdL,e71,f38,d50,hcf,hcd,hed,hed',t70 h,badCells]
   ·rw[if_neg hwe]
    have hwe':¬ (w.e:Int)=0:=by omega
    have hE:∀ (b1 b2 b3 b4:AObj),EV 0 L (b1::b2::b3::(O'++[b4])) l:=by
     intro b1 b2 b3 b4
     rcases q2 with ⟨rfl,rfl⟩|⟨k',g,rfl,hk'⟩
     ·exact .inl ⟨rfl,rfl⟩
     ·refine .inr ⟨k'+3,g,rfl,?_⟩
      have:=(gE hk').1
      simp only[List.getElem?_cons_succ]
      rw[List.getElem?_append_left this,hk']
    refine ⟨wv a x y z L w.e,.box [.p (.sl (m.nodes.map Node.enc)),.p (.i .i64 n.cap)]::.box [.p (.i .i64 tk),.p (.i .i64 tn),.p (.s ts),.p (.sl tl)]::.box (wv a x y z L w.e)::(O'++[.box (wv a x y z L w.e)]),?_,⟨a,x,y,z,L,l,rfl,q1,hE _ _ _ _,q3⟩⟩
    rw[h.run (x:=c51) rfl (by decide) (by decide) (by decide) (by decide)]
    rcases q1 with rfl|⟨r,rfl⟩<;>rcases q2 with ⟨rfl,_⟩|⟨k,g,rfl,_⟩<;>simp only[wv,mkOut]at h1 e50 ⊢<;>simp[c51,leave,e50,hcm,hk0,hw51,h1,ge0,gs0,hwe,hwe']
  ·rw[if_neg he]
   have he':¬ (err:Int)=0:=by omega
   refine ⟨badCells err,[.box [.p (.sl (m.nodes.map Node.enc)),.p (.i .i64 n.cap)],.box [.p (.i .i64 tk),.p (.i .i64 tn),.p (.s ts),.p (.sl tl)],.box (badCells err),.box (badCells err)],?_,.bad 0 err _ he⟩
   ·rw[h.run (x:=c51) rfl (by decide) (by decide) (by decide) (by decide)]
    simp only[mkOut]at e50
    simp[c51,leave,e50,hcm,hk0,he,he',t70 h,badCells]
theorem em_eq (p:Prop):p=True∨p=False:=by by_cases h:p<;>simp[h]
theorem boxW_good {c lev:Nat}{w:W}(h:GoodW c w):GoodW c (boxW lev w):=by
 unfold boxW
 split
 ·rename_i e
  obtain ⟨h1,h2,h3⟩:=h e
  intro _
  refine ⟨boxGo_wi _ h1,by rw[boxGo_len];exact h2,?_⟩
  have:∀ (l:List End) (n:Net),(∀ e∈l,e.v<2 ^ 40)→∀ e∈(boxGo lev n l).2.1,e.v<2 ^ 40:=by
   intro l
   induction l with
   |nil=>intro n _ e he;simp[boxGo]at he
   |cons x r ih =>
    intro n hx e he
    unfold boxGo at he
    split at he
    ·simp only[List.mem_cons]at he
     rcases he with rfl|he
     ·exact hx x (by simp)
     ·exact ih _ (fun e he=>hx e (by simp[he])) e he
    ·simp only[List.mem_cons]at he
     rcases he with rfl|he
     ·exact hx x (by simp)
     ·exact hx e (by simp[he])
  exact this _ _ h3
 ·exact h
theorem s72p (h:Std pg){lev i:Nat}{n:Net}{tk tn xk xn:Int}{ts xs:List UInt8}{rows xl:List (List PV)}{w:W}(hx:rows[i]?=some [iv xk,iv xn,.s xs,.sl xl])(h4:tk≠4)(h3:¬ (tk=3∧i=1))(h5:¬ (tk=5∧0<i))
  (hp:Weaves pg 37 [.ag [.p (.sl (n.nodes.map Node.enc)),.p (.i .i64 n.cap)],.ag [.p (.i .i64 xk),.p (.i .i64 xn),.p (.s xs),.p (.sl xl)],.p (.i .i64 lev)] w) :
  Weaves pg 72 [.ag [.p (.sl (n.nodes.map Node.enc)),.p (.i .i64 n.cap)],.ag [.p (.i .i64 tk),.p (.i .i64 tn),.p (.s ts),.p (.sl rows)],.p (.i .i64 i),.p (.i .i64 lev)] w:=by
 obtain ⟨v,O,hc,hv⟩:=hp
 obtain ⟨v',O',h1,h2⟩:=at_W (pg:=pg) (G:=[.box [.p (.sl (n.nodes.map Node.enc)),.p (.i .i64 n.cap)],.box [.p (.i .i64 tk),.p (.i .i64 tn),.p (.s ts),.p (.sl rows)],.box zCells,.box [.p (.i .i64 xk),.p (.i .i64 xn),.p (.s xs),.p (.sl xl)]]) hc hv rfl
 obtain ⟨a,x,y,z,L,l,rfl,q1,q2,q3⟩:=h2
 simp only[zCells]at h1
 have hE:∀ b1 b2 b3 b4:AObj,EV 0 L (b1::b2::b3::b4::O') l:=by
  intro b1 b2 b3 b4
  rcases q2 with ⟨rfl,rfl⟩|⟨k,g,rfl,hk⟩
  ·exact .inl ⟨rfl,rfl⟩
  ·exact .inr ⟨k+4,g,rfl,by simpa using hk⟩
 refine ⟨wv a x y z L w.e,.box [.p (.sl (n.nodes.map Node.enc)),.p (.i .i64 n.cap)]::.box [.p (.i .i64 tk),.p (.i .i64 tn),.p (.s ts),.p (.sl rows)]::.box (wv a x y z L w.e)::.box [.p (.i .i64 xk),.p (.i .i64 xn),.p (.s xs),.p (.sl xl)]::O',?_,⟨a,x,y,z,L,l,rfl,q1,hE _ _ _ _,q3⟩⟩
 obtain ⟨hi1,hi2⟩:=gE hx
 have okr:okRow 4 [iv xk,iv xn,.s xs,.sl xl]=true:=rfl
 rw[h.run (x:=c72) rfl (by decide) (by decide) (by decide) (by decide)]
 rcases em_eq (tk=3) with c3|c3<;>rcases em_eq (tk=5) with c5|c5<;>rcases em_eq (i=1) with ci|ci<;>rcases em_eq (0<i) with cp|cp
 all_goals first|(exfalso;simp only[eq_iff_iff,iff_true,iff_false]at c3 c5 ci cp;omega)|skip
 all_goals have ci':((i:Int)=1)=(i=1):=propext ⟨fun _=>by omega,fun _=>by omega⟩
 all_goals have cp':((0:Int)<i)=(0<i):=propext ⟨fun _=>by omega,fun _=>by omega⟩
 all_goals rcases q1 with rfl|⟨r,rfl⟩<;>rcases q2 with ⟨rfl,_⟩|⟨k,g,rfl,_⟩<;>simp only[wv]at h1 ⊢<;>simp[c72,leave,hx,hi1,hi2,okr,h4,c3,c5,ci,cp,ci',cp',h1]
theorem s72b (h:Std pg){c lev i:Nat}{n:Net}{tk tn xk xn:Int}{ts xs:List UInt8}{rows xl:List (List PV)}{w:W}(hx:rows[i]?=some [iv xk,iv xn,.s xs,.sl xl])(ht:tk=4∨(tk=3∧i=1))(hlev:lev<2 ^ 40)
  (hg:GoodW c w) (hc:c<2 ^ 17) (hp:Weaves pg 37 [.ag [.p (.sl (n.nodes.map Node.enc)),.p (.i .i64 n.cap)],.ag [.p (.i .i64 xk),.p (.i .i64 xn),.p (.s xs),.p (.sl xl)],.p (.i .i64 (lev+1:Nat))] w) :
  Weaves pg 72 [.ag [.p (.sl (n.nodes.map Node.enc)),.p (.i .i64 n.cap)],.ag [.p (.i .i64 tk),.p (.i .i64 tn),.p (.s ts),.p (.sl rows)],.p (.i .i64 i),.p (.i .i64 lev)] (boxW lev w):=by
 obtain ⟨v,O,hcl,hv⟩:=hp
 obtain ⟨v1,O1,h1,h2⟩:=at_W (pg:=pg) (G:=[.box [.p (.sl (n.nodes.map Node.enc)),.p (.i .i64 n.cap)],.box [.p (.i .i64 tk),.p (.i .i64 tn),.p (.s ts),.p (.sl rows)],.box zCells,.box [.p (.i .i64 xk),.p (.i .i64 xn),.p (.s xs),.p (.sl xl)]]) hcl hv rfl
 obtain ⟨v2,O2,h3,h4⟩:=t97 h (lev:=lev) h2 (fun e=>(hg e).1) (fun e=>by have:=(hg e).2.1;omega)
 obtain ⟨a,x,y,z,L,l,rfl,q1,q2,q3⟩:=h4
 obtain ⟨a',x',y',z',L',l',rfl,_,_,_⟩:=h2
 simp only[zCells]at h1 h3
 have hE:∀ b1 b2 b3 b4:AObj,EV 0 L (b1::b2::b3::b4::O2) l:=by
  intro b1 b2 b3 b4
  rcases q2 with ⟨rfl,rfl⟩|⟨k,g,rfl,hk⟩
  ·exact .inl ⟨rfl,rfl⟩
  ·exact .inr ⟨k+4,g,rfl,by simpa using hk⟩
 refine ⟨wv a x y z L (boxW lev w).e,.box [.p (.sl (n.nodes.map Node.enc)),.p (.i .i64 n.cap)]::.box [.p (.i .i64 tk),.p (.i .i64 tn),.p (.s ts),.p (.sl rows)]::.box (wv a x y z L (boxW lev w).e)::.box [.p (.i .i64 xk),.p (.i .i64 xn),.p (.s xs),.p (.sl xl)]::O2,?_,⟨a,x,y,z,L,l,rfl,q1,hE _ _ _ _,q3⟩⟩
 obtain ⟨hi1,hi2⟩:=gE hx
 have okr:okRow 4 [iv xk,iv xn,.s xs,.sl xl]=true:=rfl
 have hw1:IntKind.i64.wrap ((lev:Int)+1)=(lev:Int)+1:=w64 _ (by omega) (by omega)
 simp only[Int.natCast_add,show ((1:Nat):Int)=1 from rfl]at h1
 have ci':((i:Int)=1)=(i=1):=propext ⟨fun _=>by omega,fun _=>by omega⟩
 rw[h.run (x:=c72) rfl (by decide) (by decide) (by decide) (by decide)]
 generalize boxW lev w=bw at *
 rcases ht with rfl|⟨rfl,rfl⟩
 ·rcases q1 with rfl|⟨r,rfl⟩<;>rcases q2 with ⟨rfl,_⟩|⟨k,g,rfl,_⟩<;>simp only[wv,List.cons_append,List.nil_append]at h1 h3 ⊢<;>simp[c72,leave,hx,hi1,hi2,okr,h1,h3,hw1]
 ·rcases q1 with rfl|⟨r,rfl⟩<;>rcases q2 with ⟨rfl,_⟩|⟨k,g,rfl,_⟩<;>simp only[wv,List.cons_append,List.nil_append]at h1 h3 ⊢<;>simp[c72,leave,hx,hi1,hi2,okr,h1,h3,hw1]
theorem s72l (h:Std pg){lev i k:Nat}{n:Net}{tn xk yk yn:Int}{ts xs ys:List UInt8}{rows yl rest:List (List PV)}{w:W}(hx:rows[i]?=some [iv xk,iv k,.s xs,.sl ([iv yk,iv yn,.s ys,.sl yl]::rest)])(hi:0<i)(hr:okRows 4 rest=true)
  (hp:Weaves pg 51 [.ag [.p (.sl (n.nodes.map Node.enc)),.p (.i .i64 n.cap)],.ag [.p (.i .i64 yk),.p (.i .i64 yn),.p (.s ys),.p (.sl yl)],.p (.i .i64 k),.p (.i .i64 lev)] w) :
  Weaves pg 72 [.ag [.p (.sl (n.nodes.map Node.enc)),.p (.i .i64 n.cap)],.ag [.p (.i .i64 5),.p (.i .i64 tn),.p (.s ts),.p (.sl rows)],.p (.i .i64 i),.p (.i .i64 lev)] w:=by
 obtain ⟨v,O,hc,hv⟩:=hp
 obtain ⟨v',O',h1,h2⟩:=at_W (pg:=pg) (G:=[.box [.p (.sl (n.nodes.map Node.enc)),.p (.i .i64 n.cap)],.box [.p (.i .i64 5),.p (.i .i64 tn),.p (.s ts),.p (.sl rows)],.box zCells,.box [.p (.i .i64 xk),.p (.i .i64 k),.p (.s xs),.p (.sl ([iv yk,iv yn,.s ys,.sl yl]::rest))]]) hc hv rfl
 obtain ⟨a,x,y,z,L,l,rfl,q1,q2,q3⟩:=h2
 simp only[zCells]at h1
 have hE:∀ b1 b2 b3 b4:AObj,EV 0 L (b1::b2::b3::b4::O') l:=by
  intro b1 b2 b3 b4
  rcases q2 with ⟨rfl,rfl⟩|⟨k,g,rfl,hk⟩
  ·exact .inl ⟨rfl,rfl⟩
  ·exact .inr ⟨k+4,g,rfl,by simpa using hk⟩
 refine ⟨wv a x y z L w.e,.box [.p (.sl (n.nodes.map Node.enc)),.p (.i .i64 n.cap)]::.box [.p (.i .i64 5),.p (.i .i64 tn),.p (.s ts),.p (.sl rows)]::.box (wv a x y z L w.e)::.box [.p (.i .i64 xk),.p (.i .i64 k),.p (.s xs),.p (.sl ([iv yk,iv yn,.s ys,.sl yl]::rest))]::O',?_,⟨a,x,y,z,L,l,rfl,q1,hE _ _ _ _,q3⟩⟩
 obtain ⟨hi1,hi2⟩:=gE hx
 have okr:okRow 4 [iv xk,iv k,.s xs,.sl ([iv yk,iv yn,.s ys,.sl yl]::rest)]=true:=rfl
 have okr2:okRow 4 [iv yk,iv yn,.s ys,.sl yl]=true:=rfl
 have cp':(0:Int)<i:=by omega
 rw[h.run (x:=c72) rfl (by decide) (by decide) (by decide) (by decide)]
 rcases q1 with rfl|⟨r,rfl⟩<;>rcases q2 with ⟨rfl,_⟩|⟨k,g,rfl,_⟩<;>simp only[wv]at h1 ⊢<;>simp[c72,leave,hx,hi1,hi2,okr,okr2,hi,cp',h1]
end Go.Proofs.Z
end

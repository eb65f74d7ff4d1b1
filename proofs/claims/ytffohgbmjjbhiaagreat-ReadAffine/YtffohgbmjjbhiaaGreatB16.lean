/- A part of the proof. -/
import Derived.Test.YtffohgbmjjbhiaaGreatB15
set_option linter.all false
namespace Go.Proofs.Z
section
variable {pg:fX}{G:Heap}
theorem JP (h:bY pg){Us:Nat}{n:aI}{o1 o2:Int}:∃tl,E pg 73 [.ag (dN n o1 o2 .aC 0),.aC,.p (.i .i64 Us)] []=some (.ret (.ag (dN n o1 o2 .aC 0)),tl):=by
 refine⟨[.box (dN n o1 o2 .aC 0),.box (dN n o1 o2 .aC 0)],?_⟩;rw[h.run (x:=CN)];simp[CN,aj,dN,gc,exp,aQ,UG];rw[dA rfl];simp[Vl,aj]
theorem JQ (h:bY pg){Us:Nat}{n:aI}{o1 o2:Int}{l:List bW}{g s:Nat}:∃tl,E pg 73 [.ag (dN n o1 o2 .aC 0),.arr 0 l.length g,.p (.i .i64 Us)] [.arr 3 (l.map bW.aw) g s]=some (.ret (.ag (dN n o1 o2 (.arr 0 l.length g) 0)),.arr 3 (l.map bW.aw) g s::tl):=by
 refine⟨[.box (dN n o1 o2 (.arr 0 l.length g) 0),.box (dN n o1 o2 (.arr 0 l.length g) 0)],?_⟩;rw[h.run (x:=CN)];simp[CN,aj,dN,gc,exp,aQ,UG];rw[dA rfl];simp[Vl,aj]
theorem JR (h:bY pg){Us:Nat}{n:aI}{o1 o2:Int}{g s:Nat}:∃tl,E pg 73 [.ag (dN n o1 o2 (.arr 0 0 g) 0),.aC,.p (.i .i64 Us)] [.arr 3 [] g s]=some (.ret (.ag (dN n o1 o2 .aC 0)),.arr 3 [] g s::tl):=by
 refine⟨[.box (dN n o1 o2 .aC 0),.box (dN n o1 o2 .aC 0)],?_⟩;rw[h.run (x:=CN)];simp[CN,aj,dN,gc,exp,aQ,UG];rw[dA rfl];simp[Vl,aj]
theorem JS (h:bY pg){Us:Nat}{n:aI}{o1 o2:Int}{l:List bW}{gw s g t:Nat}:∃tl,E pg 73 [.ag (dN n o1 o2 (.arr 0 0 gw) 0),.arr 1 l.length g,.p (.i .i64 Us)] [.arr 3 [] gw s,.arr 3 (l.map bW.aw) g t]=some (.ret (.ag (dN n o1 o2 (.arr 1 l.length g) 0)),.arr 3 [] gw s::.arr 3 (l.map bW.aw) g t::tl):=by
 refine⟨[.box (dN n o1 o2 (.arr 1 l.length g) 0),.box (dN n o1 o2 (.arr 1 l.length g) 0)],?_⟩;rw[h.run (x:=CN)];simp[CN,aj,dN,gc,exp,aQ,UG];rw[dA rfl];simp[Vl,aj]
theorem JT (h:bY pg){Us:Nat}{n:aI}{o1 o2:Int}{x:bW}{r:List bW}{gw:Nat}(hw:WI n)(hl:(x::r).length<2 ^ 17):∃g tl,E pg 73 [.ag (dN n o1 o2 (.arr 0 (x::r).length gw) 0),.aC,.p (.i .i64 Us)] [.arr 3 ((x::r).map bW.aw) gw 0] =
  some (.ret (.ag (dN (Uw Us n [] (x::r)).1 o1 o2 (.arr 1 (Uw Us n [] (x::r)).2.1.length g) (Uw Us n [] (x::r)).2.2)),.arr 3 ((x::r).map bW.aw) gw 0::.arr 3 ((Uw Us n [] (x::r)).2.1.map bW.aw) g 0::tl):=by
 obtain⟨j,g',hL⟩:=P3 (body:=Vl) h rfl (Us:=Us) (o1:=o1) (o2:=o2) (gw:=gw) x r n hw hl;generalize Uw Us n [] (x::r)=R at *;refine⟨g',[.box (dN R.1 o1 o2 (.arr 1 R.2.1.length g') R.2.2),.box (dN R.1 o1 o2 (.arr 1 R.2.1.length g') R.2.2)],?_⟩;simp only[dN,bU,ai]at hL ⊢
 try simp only[fW]at hL
 rw[h.run (x:=CN)];simp[CN,aj,gc,exp,aQ,UG]
 first|rw[hL]|(simp at hL;rw[hL])
 simp[aj]
theorem JU (h:bY pg){Us:Nat}{n:aI}{o1 o2:Int}{x:bW}{r l:List bW}{gw g:Nat}(hw:WI n)(hl:(x::r).length<2 ^ 18)(hl2:l.length+(x::r).length<2 ^ 18):∃g' tl,E pg 73 [.ag (dN n o1 o2 (.arr 0 (x::r).length gw) 0),.arr 1 l.length g,.p (.i .i64 Us)] [.arr 3 ((x::r).map bW.aw) gw 0,.arr 3 (l.map bW.aw) g 0] =
  some (.ret (.ag (dN (Uw Us n l (x::r)).1 o1 o2 (.arr 2 (Uw Us n l (x::r)).2.1.length g') (Uw Us n l (x::r)).2.2)),.arr 3 ((x::r).map bW.aw) gw 0::.arr 3 (l.map bW.aw) g l.length::.arr 3 ((Uw Us n l (x::r)).2.1.map bW.aw) g' 0::tl):=by
 obtain⟨j,g',hL⟩:=f73 (body:=Vl) h rfl (Us:=Us) (o1:=o1) (o2:=o2) (gw:=gw) x r [] l n g hw hl hl2;generalize Uw Us n l (x::r)=R at *;refine⟨g',[.box (dN R.1 o1 o2 (.arr 2 R.2.1.length g') R.2.2),.box (dN R.1 o1 o2 (.arr 2 R.2.1.length g') R.2.2)],?_⟩;simp only[dN,bU,ai,aL,aJ]at hL ⊢
 try simp only[fW]at hL
 rw[h.run (x:=CN)];simp[CN,aj,gc,exp,aQ,UG]
 first|rw[hL]|(simp at hL;rw[hL])
 simp[aj]
theorem p_ {call:di}{f:Nat}{args args':List AV}{ids:List Nat}{objs os:Heap}{out:Out}(hk:bC pg f=true)(he:aQ true ⟨[],G⟩ args=some (args',⟨ids,G⟩))(ho:UG (G.length+1) ⟨ids,G⟩ 0=some (objs,⟨ids,G⟩))(hc:call f args' objs=some (out,os)) :
  UM pg call f args G=some (out.back ids G.length,b_ ids G.length G ids os++(os.drop ids.length).map (bD ids G.length)):=by
 unfold UM;rw[hk,he];dsimp only;rw[ho];dsimp only;rw[hc]
theorem Y1 {k:Nat}:UG (k+1) ⟨[],G⟩ 0=some ([],⟨[],G⟩):=by simp[UG]
theorem FY {i a b c d:Nat}{ay:List (List PV)}(h1:G[i]?=some (.arr a ay c d)):UG (G.length+1) ⟨[i],G⟩ 0=some ([.arr a ay c d],⟨[i],G⟩):=by
 obtain⟨m,hm⟩:∃m,G.length=m+1:=⟨G.length-1,by have:=(gE h1).1;omega⟩
 rw[hm];simp[UG,h1]
theorem Iy {i j a c d a' c' d':Nat}{ay rows':List (List PV)}(h1:G[i]?=some (.arr a ay c d))(h2:G[j]?=some (.arr a' rows' c' d'))(hij:i≠j):UG (G.length+1) ⟨[i,j],G⟩ 0=some ([.arr a ay c d,.arr a' rows' c' d'],⟨[i,j],G⟩):=by
 obtain⟨m,hm⟩:∃m,G.length=m+2:=⟨G.length-2,by have:=(gE h1).1;have:=(gE h2).1;omega⟩
 rw[hm];simp[UG,h1,h2]
def U5 (Us:Nat)(w:W)(l:List bW):W:=⟨(Uw Us w.n l w.l).1,w.out,(Uw Us w.n l w.l).2.1,(Uw Us w.n l w.l).2.2⟩
theorem t73 (h:bY pg){Us:Nat}{w:W}{v:List AV}{B O O2:Heap}{L2:AV}{l:List bW}(hv:WV (B++O).length w v O2)(hL:EV B.length L2 O l)(he:w.e=0)(hw:WI w.n)(hl:w.l.length<2 ^ 17)(hl2:l.length<2 ^ 17) :
  ∃v' O',UM pg (E pg) 73 [.ag v,L2,.p (.i .i64 Us)] (B++O++O2)=some (.ret (.ag v'),B++O')/\WV B.length (U5 Us w l) v' O':=by
 have k73:bC pg 73=true:=h.bq (x:=CN) rfl;obtain⟨a,x,y,z,L,l1,rfl,h1,h2,h3⟩:=hv;obtain⟨q1,q2,q3,q4,q5⟩:=h3 he;subst q1 q2 q3 q4 q5;have hc:iF (.p (.sl (w.n.ae.map Up.aw))) w.n.aV w.out.aD w.out.aT L w.e=dN w.n w.out.aD w.out.aT L 0:=by rw[he];rfl
 rw[hc];have hback:∀(ids:List Nat) (b:Nat) (n:aI) (o1 o2:Int) (L:AV) (e:Int),dh ids b (dN n o1 o2 L e)=dN n o1 o2 (Z.back ids b L) e:=λids b n o1 o2 L e=>by simp[dN,Z.back,dh]
 have hsB:∀(T:Heap) (k:Nat) (o:fE),(B++T).set (k+B.length) o=B++T.set k o:=λT k o=>by
  rw[iA _ _ (by omega),cQ]
 have hexp:∀(L:AV) (e e':fI) (L':AV),exp true e L=some (L',e')->∀n o1 o2 c,exp true e (.ag (dN n o1 o2 L c))=some (.ag (dN n o1 o2 L' c),e'):=by
  intro L e e' L' hL n o1 o2 c;simp[exp,aQ,dN,hL]
 have hlen:(B++O++O2).length=B.length+O.length+O2.length:=by simp[eI]
 have hmk:∀(n:aI) (L:AV) (e:Nat) (O':Heap) (l':List bW),EV B.length L O' l'->WV B.length ⟨n,w.out,l',e⟩ (dN n w.out.aD w.out.aT L e) O':=λn L e O' l' hE =>
  ⟨.p (.sl (n.ae.map Up.aw)),n.aV,w.out.aD,w.out.aT,L,l',rfl,.inr ⟨_,rfl⟩,hE,λ_=>⟨rfl,rfl,rfl,rfl,rfl⟩⟩
 rcases h2 with ⟨rfl,hl0⟩|⟨k,g,rfl,hk⟩
 ·have hm:U5 Us w l=⟨w.n,w.out,l,0⟩:=by unfold U5;rw[hl0];rfl
  rw[hm];rcases hL with ⟨rfl,rfl⟩|⟨k2,g2,rfl,hk2⟩
  ·obtain⟨tl,hs⟩:=JP (Us:=Us) (n:=w.n) (o1:=w.out.aD) (o2:=w.out.aT) h;refine⟨_,O++O2++tl.map (bD [] (B++O++O2).length),?_,hmk w.n .aC 0 _ [] (.inl ⟨rfl,rfl⟩)⟩;rw[p_ k73 (args':=[.ag (dN w.n w.out.aD w.out.aT .aC 0),.aC,.p (.i .i64 Us)]) (ids:=[]) (by simp[exp,aQ,dN]) Y1 hs];simp[Out.back,hback,Z.back,b_]
  ·have hG:(B++O++O2)[k2+B.length]?=some (.arr 3 (l.map bW.aw) g2 0):=by
    have hlt:=(gE hk2).1;rw[pd,List.getElem?_append_right (by omega),cQ,List.getElem?_append_left hlt,hk2]
   obtain⟨tl,hs⟩:=JQ (Us:=Us) (n:=w.n) (o1:=w.out.aD) (o2:=w.out.aT) (l:=l) (g:=g2) (s:=0) h;refine⟨_,(O++O2).set k2 (.arr 3 (l.map bW.aw) g2 0)++tl.map (bD [k2+B.length] (B++O++O2).length),?_,hmk w.n (.arr (k2+B.length) l.length g2) 0 _ l (.inr ⟨k2,g2,rfl,?_⟩)⟩
   ·rw[p_ k73 (args':=[.ag (dN w.n w.out.aD w.out.aT .aC 0),.arr 0 l.length g2,.p (.i .i64 Us)]) (ids:=[k2+B.length]) (by simp[exp,aQ,dN,fI.id,eP]) (FY (b:=0) hG) hs];simp[Out.back,hback,Z.back,UL,b_,bD,hsB]
   ·have hlt:=(gE hk2).1;rw[List.getElem?_append_left (by simp;omega),List.getElem?_set_self (by simp;omega)]
 ·have hkl:=(gE hk).1;have hGa:(B++O++O2)[k+(B++O).length]?=some (.arr 3 (w.l.map bW.aw) g 0):=by
   rw[List.getElem?_append_right (by omega),cQ,hk]
  have hid:k+(B++O).length=(k+O.length)+B.length:=by simp;omega
  have hlO:(O++O2).length=O.length+O2.length:=by simp
  rcases hL with ⟨rfl,rfl⟩|⟨k2,g2,rfl,hk2⟩
  ·cases hwl:w.l with
   |nil =>
    have hm:U5 Us w []=⟨w.n,w.out,[],0⟩:=by unfold U5;rw[hwl];rfl
    rw[hm];rw[hwl]at hGa;obtain⟨tl,hs⟩:=JR (Us:=Us) (n:=w.n) (o1:=w.out.aD) (o2:=w.out.aT) (g:=g) (s:=0) h;refine⟨_,(O++O2).set (k+O.length) (.arr 3 [] g 0)++tl.map (bD [k+(B++O).length] (B++O++O2).length),?_,hmk w.n .aC 0 _ [] (.inl ⟨rfl,rfl⟩)⟩;rw[p_ k73 (args':=[.ag (dN w.n w.out.aD w.out.aT (.arr 0 0 g) 0),.aC,.p (.i .i64 Us)]) (ids:=[k+(B++O).length]) (by simp[exp,aQ,dN,fI.id,eP]) (FY (b:=0) hGa) hs];rw[hid];simp[Out.back,hback,Z.back,UL,b_,bD,hsB]
   |cons x r =>
    have hm:U5 Us w []=⟨(Uw Us w.n [] (x::r)).1,w.out,(Uw Us w.n [] (x::r)).2.1,(Uw Us w.n [] (x::r)).2.2⟩:=by unfold U5;rw[hwl]
    rw[hm];rw[hwl]at hGa hl;obtain⟨g',tl,hs⟩:=JT (Us:=Us) (o1:=w.out.aD) (o2:=w.out.aT) (x:=x) (r:=r) (gw:=g) h hw hl;generalize hR:Uw Us w.n [] (x::r)=R at *;refine⟨dN R.1 w.out.aD w.out.aT (.arr ((O.length+O2.length)+B.length) R.2.1.length g') R.2.2,(O++O2).set (k+O.length) (.arr 3 ((x::r).map bW.aw) g 0)++(.arr 3 (R.2.1.map bW.aw) g' 0::tl.map (bD [k+(B++O).length] (B++O++O2).length)),?_,hmk R.1 _ R.2.2 _ R.2.1 (.inr ⟨O.length+O2.length,g',rfl,?_⟩)⟩
    ·rw[p_ k73 (args':=[.ag (dN w.n w.out.aD w.out.aT (.arr 0 (x::r).length g) 0),.aC,.p (.i .i64 Us)]) (ids:=[k+(B++O).length]) (by simp[exp,aQ,dN,fI.id,eP]) (FY (b:=0) hGa) hs];rw[hid];simp[Out.back,hback,Z.back,UL,b_,bD,hsB];rw[show B.length+(O.length+O2.length)=O.length+O2.length+B.length from by omega]
    ·rw[List.getElem?_append_right (by simp)];simp
  ·have hlt2:=(gE hk2).1;have hGc:(B++O++O2)[k2+B.length]?=some (.arr 3 (l.map bW.aw) g2 0):=by
    rw[pd,List.getElem?_append_right (by omega),cQ,List.getElem?_append_left hlt2,hk2]
   have hne:k+(B++O).length≠k2+B.length:=by simp;omega
   have hne':k+O.length≠k2:=by omega
   have hne2:¬ k+(B.length+O.length)=k2+B.length:=by omega
   cases hwl:w.l with
   |nil =>
    have hm:U5 Us w l=⟨w.n,w.out,l,0⟩:=by unfold U5;rw[hwl];rfl
    rw[hm];rw[hwl]at hGa;obtain⟨tl,hs⟩:=JS (Us:=Us) (n:=w.n) (o1:=w.out.aD) (o2:=w.out.aT) (l:=l) (gw:=g) (s:=0) (g:=g2) (t:=0) h;refine⟨_,((O++O2).set (k+O.length) (.arr 3 [] g 0)).set k2 (.arr 3 (l.map bW.aw) g2 0)++tl.map (bD [k+(B++O).length,k2+B.length] (B++O++O2).length),?_,hmk w.n (.arr (k2+B.length) l.length g2) 0 _ l (.inr ⟨k2,g2,rfl,?_⟩)⟩
    ·rw[p_ k73 (args':=[.ag (dN w.n w.out.aD w.out.aT (.arr 0 0 g) 0),.arr 1 l.length g2,.p (.i .i64 Us)]) (ids:=[k+(B++O).length,k2+B.length]) (by simp[exp,aQ,dN,fI.id,eP,hne2]) (Iy hGa hGc hne) hs];rw[hid];simp[Out.back,hback,Z.back,UL,b_,bD,hsB]
    ·rw[List.getElem?_append_left (by simp;omega),List.getElem?_set_self (by simp;omega)]
   |cons x r =>
    have hm:U5 Us w l=⟨(Uw Us w.n l (x::r)).1,w.out,(Uw Us w.n l (x::r)).2.1,(Uw Us w.n l (x::r)).2.2⟩:=by unfold U5;rw[hwl]
    rw[hm];rw[hwl]at hGa hl;obtain⟨g',tl,hs⟩:=JU (Us:=Us) (o1:=w.out.aD) (o2:=w.out.aT) (x:=x) (r:=r) (l:=l) (gw:=g) (g:=g2) h hw (by omega) (by omega);generalize hR:Uw Us w.n l (x::r)=R at *;refine⟨dN R.1 w.out.aD w.out.aT (.arr ((O.length+O2.length)+B.length) R.2.1.length g') R.2.2,((O++O2).set (k+O.length) (.arr 3 ((x::r).map bW.aw) g 0)).set k2 (.arr 3 (l.map bW.aw) g2 l.length)++(.arr 3 (R.2.1.map bW.aw) g' 0::tl.map (bD [k+(B++O).length,k2+B.length] (B++O++O2).length)),?_,hmk R.1 _ R.2.2 _ R.2.1 (.inr ⟨O.length+O2.length,g',rfl,?_⟩)⟩
    ·rw[p_ k73 (args':=[.ag (dN w.n w.out.aD w.out.aT (.arr 0 (x::r).length g) 0),.arr 1 l.length g2,.p (.i .i64 Us)]) (ids:=[k+(B++O).length,k2+B.length]) (by simp[exp,aQ,dN,fI.id,eP,hne2]) (Iy hGa hGc hne) hs];rw[hid];simp[Out.back,hback,Z.back,UL,b_,bD,hsB];rw[show B.length+(O.length+O2.length)=O.length+O2.length+B.length from by omega]
    ·rw[List.getElem?_append_right (by simp)];simp
end
inductive Ct where
 |var (i:Nat)
 |lam (b:Ct)
 |app (f a:Ct)
 |UW (s:List UInt8) (l:List Ct)
 |case (h:Ct) (l:List Ct)
 |alt (s:List UInt8) (n:Nat) (b:Ct)
 |int (v:Int)
 |op (s:List UInt8) (a b:Ct)
 |fail
 deriving Inhabited
mutual
def Ct.tm:Ct->Tm
 |.var i=>.mk 1 i [] []
 |.lam b=>.mk 2 0 [] [b.tm]
 |.app f a=>.mk 3 0 [] [f.tm,a.tm]
 |.UW s l=>.mk 4 0 s (Ct.gp l)
 |.case h l=>.mk 5 0 [] (h.tm::Ct.gp l)
 |.alt s n b=>.mk 6 n s [b.tm]
 |.int v=>.mk 7 v [] []
 |.op s a b=>.mk 8 0 s [a.tm,b.tm]
 |.fail=>.mk 9 0 [] []
def Ct.gp:List Ct->List Tm
 |[]=>[]
 |a::r=>a.tm::Ct.gp r
end
mutual
def Ct.size:Ct->Nat
 |.var _=>1
 |.lam b=>b.size+1
 |.app f a=>f.size+a.size+1
 |.UW _ l=>Ct.dt l+1
 |.case h l=>h.size+Ct.dt l+1
 |.alt _ _ b=>b.size+1
 |.int _=>1
 |.op _ a b=>a.size+b.size+1
 |.fail=>1
def Ct.dt:List Ct->Nat
 |[]=>0
 |a::r=>a.size+Ct.dt r
end
def Wc (Us:Nat):Up:=⟨2,Us,0,[],[],[]⟩
def kt (Us:Nat):Up:=⟨7,Us,0,[],[],[]⟩
def eN (l:List bW):List bW:=(l.filter λe=>decide (0<e.v)).map λe=>⟨e.v-1,e.p⟩
def Xc (Us m:Nat)(w:W):W:=match jT w.l 0 with
 |some i=>⟨(w.n.bx w.out ⟨m,1⟩).bx (w.l.getD i default).p ⟨m,2⟩,⟨m,0⟩,eN w.l,0⟩
 |none=>if ((w.n.bx w.out ⟨m,1⟩).bK (kt Us)).2.2=0 then
   ⟨((w.n.bx w.out ⟨m,1⟩).bK (kt Us)).1.bx ⟨((w.n.bx w.out ⟨m,1⟩).bK (kt Us)).2.1,0⟩ ⟨m,2⟩,⟨m,0⟩,eN w.l,0⟩
  else pN ((w.n.bx w.out ⟨m,1⟩).bK (kt Us)).2.2
def iG (Us:Nat)(pb:aI->W):Nat->aI->W
 |0,n=>pb n
 |k+1,n=>if (n.bK (Wc Us)).2.2=0 then
   (if (iG Us pb k (n.bK (Wc Us)).1).e=0 then Xc Us (n.bK (Wc Us)).2.1 (iG Us pb k (n.bK (Wc Us)).1) else iG Us pb k (n.bK (Wc Us)).1)
  else pN (n.bK (Wc Us)).2.2
def dg (Us m:Nat):List (aI->W)->List Nat->aI->List bW->W
 |f::r,s::ss,n,l=>if (f n).e=0 then
   (if (U5 Us ⟨(f n).n.bx (f n).out ⟨m,s⟩,(f n).out,(f n).l,0⟩ l).e=0 then
    dg Us m r ss (U5 Us ⟨(f n).n.bx (f n).out ⟨m,s⟩,(f n).out,(f n).l,0⟩ l).n (U5 Us ⟨(f n).n.bx (f n).out ⟨m,s⟩,(f n).out,(f n).l,0⟩ l).l
   else pN (U5 Us ⟨(f n).n.bx (f n).out ⟨m,s⟩,(f n).out,(f n).l,0⟩ l).e)
  else pN (f n).e
 |_,_,n,l=>⟨n,⟨0,0⟩,l,0⟩
def mS (x:Up)(fs:List (aI->W))(ss:List Nat)(out:Nat)(n:aI):W:=if (n.bK x).2.2=0 then
  (if (dg x.Us (n.bK x).2.1 fs ss (n.bK x).1 []).e=0 then { dg x.Us (n.bK x).2.1 fs ss (n.bK x).1 [] with out:=⟨(n.bK x).2.1,out⟩ } else dg x.Us (n.bK x).2.1 fs ss (n.bK x).1 [])
 else pN (n.bK x).2.2
def iH (x:Up)(out:Nat)(l:Nat->List bW)(n:aI):W:=⟨(n.bK x).1,⟨(n.bK x).2.1,out⟩,l (n.bK x).2.1,(n.bK x).2.2⟩
def fQ:Ct->List UInt8×Nat
 |.alt s n _=>(s,n)
 |_=>([],0)
mutual
def Ct.cP:Ct->Nat->aI->W
 |.var i,Us,n=>iH ⟨5,Us,0,[],[],[]⟩ 1 (λs=>[⟨i,⟨s,0⟩⟩]) n
 |.int v,Us,n=>iH ⟨10,Us,v,[],[],[]⟩ 0 (λ_=>[]) n
 |.fail,Us,n=>iH ⟨13,Us,0,[],[],[]⟩ 0 (λ_=>[]) n
 |.lam b,Us,n=>iG Us (b.cP Us) 1 n
 |.app f a,Us,n=>mS ⟨3,Us,0,[],[],[]⟩ [f.cP Us,λn=>jI Us (a.cP (Us+1) n)] [0,2] 1 n
 |.UW s l,Us,n=>mS ⟨8,Us,0,s,[],List.replicate (l.length+1) ⟨0,0⟩⟩ (Ct.l9 l Us) (List.range' 1 l.length) 0 n
 |.case h l,Us,n=>mS ⟨9,Us,0,[],l.map fQ,[]⟩ (h.cP Us::Ct.nk l Us) (0::List.range' 2 l.length) 1 n
 |.alt _ _ b,Us,n=>pN 999
 |.op s a b,Us,n=>mS ⟨11,Us,0,s,[],[]⟩ [a.cP Us,b.cP Us] [0,2] 1 n
def Ct.l9:List Ct->Nat->List (aI->W)
 |[],_=>[]
 |a::r,Us=>(λn=>jI Us (a.cP (Us+1) n))::Ct.l9 r Us
def Ct.nk:List Ct->Nat->List (aI->W)
 |[],_=>[]
 |.alt _ k b::r,Us=>iG Us (b.cP Us) k::Ct.nk r Us
 |_::r,Us=>(λ_=>pN 999)::Ct.nk r Us
end
def kP (most:Nat):aI:=⟨[⟨1,0,0,[],[],[⟨0,0⟩]⟩],most⟩
def Ct.cS (t:Ct)(most:Nat):aI×Nat:=if (t.cP 0 (kP most)).e=0 then ((t.cP 0 (kP most)).n.bx (t.cP 0 (kP most)).out ⟨0,0⟩,0) else (⟨[],0⟩,(t.cP 0 (kP most)).e)
section
variable {pg:fX}{G:Heap}
theorem D4 {O T:Heap}{x:fE}{n:Nat}(h:O.length=n):(O++x::T)[n]?=some x:=by subst h;simp
theorem Y2 {O T:Heap}{x y:fE}{n:Nat}(h:O.length=n):(O++x::y::T)[n+1]?=some y:=by subst h;simp
theorem D5 {O T:Heap}{x y:fE}{n:Nat}(h:O.length=n):(O++x::T).set n y=O++y::T:=by subst h;simp
theorem Y3 {O T:Heap}{x y z:fE}{n:Nat}(h:O.length=n):(O++x::y::T).set (n+1) z=O++x::z::T:=by subst h;simp
theorem D6 {x:bW}{r:List bW}(h:0<x.v):eN (x::r)=⟨x.v-1,x.p⟩::eN r:=by simp[eN,h]
theorem D7 {x:bW}{r:List bW}(h:¬ 0<x.v):eN (x::r)=eN r:=by simp[eN,h]
theorem MJ (h:bY pg){body:aU}(hb:body=qu){r8:List AV}(he:∀e,aQ true e r8=some (r8,e)){n:aI}{o1 o2:Int}{l:List bW}{gl sl:Nat}(hl:l.length<2 ^ 18)(hv:∀e∈l,e.v<2 ^ 40):∀m i (acc:List bW) g,i+m=l.length->acc.length<=i ->
  L pg 0 [8,11,16,17] body [(8,.ptr 0 0),(11,.ptr 1 0),(16,.arr 2 acc.length g),(17,.p (.i .i64 (i:Nat)))] [.box r8,.box (dN n o1 o2 (.arr 3 l.length gl) 0),.arr 3 (acc.map bW.aw) g 0,.arr 3 (l.map bW.aw) gl sl] =
   some (.exit 0,[(8,.ptr 0 0),(11,.ptr 1 0),(16,.arr 2 (acc++eN (l.drop i)).length (g+(eN (l.drop i)).length)),(17,.p (.i .i64 l.length)),(99,.p (.b false))],
    [.box r8,.box (dN n o1 o2 (.arr 3 l.length gl) 0),.arr 3 ((acc++eN (l.drop i)).map bW.aw) (g+(eN (l.drop i)).length) 0,.arr 3 (l.map bW.aw) gl sl])
 |0,i,acc,g,hi,ha=>by
  have:i=l.length:=by omega
  subst this;rw[dA hb];simp[qu,aj,dN,eN]
 |m+1,i,acc,g,hi,ha=>by
  have hlt:i<l.length:=by omega
  have hd:l.drop i=l[i]::l.drop (i+1):=aM hlt;have hE:l[i].aw=[iv l[i].v,iv l[i].p.aD,iv l[i].p.aT]:=rfl;have hv1:=hv l[i] (bM hlt);have r1:bZ (acc.length+1) 24=true:=by simp[bZ];omega
  have t1:List.take acc.length (acc.map bW.aw)=acc.map bW.aw:=aF (by simp);have okr:∀a b c:Int,aS 3 [iv a,iv b,iv c]=true:=λ_ _ _=>rfl;rw[dA hb,hd];by_cases hz:0<l[i].v
  ·have hz':(0:Int)<l[i].v:=by omega
   have hw:IntKind.i64.wrap ((l[i].v:Int)-1)=((l[i].v-1:Nat):Int):=by rw[cR _];omega
   have hlow:eN (l[i]::l.drop (i+1))=⟨l[i].v-1,l[i].p⟩::eN (l.drop (i+1)):=D6 hz;have ih:=MJ h hb he (n:=n) (o1:=o1) (o2:=o2) (gl:=gl) (sl:=sl) hl hv m (i+1) (acc++[⟨l[i].v-1,l[i].p⟩]) (g+1) (by omega) (by simp;omega);rw[show((i+1:Nat):Int)=(i:Int)+1 from by omega]at ih;rw[hlow];have hE2:bW.aw ⟨l[i].v-1,l[i].p⟩=[iv (l[i].v-1:Nat),iv l[i].p.aD,iv l[i].p.aT]:=rfl;simp only[dN,bB,ai,au,aR,av,aJ,aG,hE2]at ih;simp[qu,aj,dN,hlt,hE,hz,hz',hw,qh,Uu.Uv,cX,cO,ee,Vy,bH,okr,r1,t1,cR ((i:Int)+1),gc,exp,aQ,UG,he,ih];rw[hE2];simp;omega
  ·have hz':¬ (0:Int)<l[i].v:=by omega
   have hlow:eN (l[i]::l.drop (i+1))=eN (l.drop (i+1)):=D7 hz;have ih:=MJ h hb he (n:=n) (o1:=o1) (o2:=o2) (gl:=gl) (sl:=sl) hl hv m (i+1) acc g (by omega) (by omega);rw[show((i+1:Nat):Int)=(i:Int)+1 from by omega]at ih;rw[hlow];simp only[dN]at ih;simp[qu,aj,dN,hlt,hE,hz,hz',cR ((i:Int)+1),gc,exp,aQ,UG,he,ih]
theorem Oq (h:bY pg){body:aU}(hb:body=qu){r8:List AV}{n:aI}{o1 o2:Int}{g:Nat}:L pg 0 [8,11,16,17] body [(8,.ptr 0 0),(11,.ptr 1 0),(16,.arr 2 0 g),(17,.p (.i .i64 0))] [.box r8,.box (dN n o1 o2 .aC 0),.arr 3 [] g 0] =
   some (.exit 0,[(8,.ptr 0 0),(11,.ptr 1 0),(16,.arr 2 0 g),(17,.p (.i .i64 0)),(99,.p (.b false))],[.box r8,.box (dN n o1 o2 .aC 0),.arr 3 [] g 0]):=by
 rw[dA hb];simp[qu,aj,dN]
def jd (c:Nat)(w:W):Prop:=w.e=0->WI w.n/\w.l.length<=c/\∀e∈w.l,e.v<2 ^ 40
def fB (pg:fX)(f:Nat)(args:List AV)(w:W):Prop:=∃v O,E pg f args []=some (.ret (.ag v),O)/\WV 0 w v O
theorem wg {Us:Nat}(h:Us<=60):(Wc Us).ok=true:=Up.W9 (by omega) rfl (by omega) h (by simp) (by simp) (by omega)
theorem ux {Us:Nat}(h:Us<=60):(kt Us).ok=true:=Up.W9 (by omega) rfl (by omega) h (by simp) (by simp) (by omega)
theorem WV.bad (b e:Nat)(O:Heap)(he:e≠0):WV b (pN e) (cB e) O:=⟨.aC,0,0,0,.aC,[],rfl,.inl rfl,.inl ⟨rfl,rfl⟩,λh=>absurd h he⟩
theorem tb (l:List bW):(eN l).length<=l.length:=by
 unfold eN;rw[cU];exact gq _ _
theorem C3 {l:List bW}(h:∀e∈l,e.v<2 ^ 40):∀e∈eN l,e.v<2 ^ 40:=by
 intro e he;unfold eN at he;obtain⟨x,hx,rfl⟩:=bj.1 he;have:=h x ((dH.1 hx).1);dsimp only;omega
theorem A2 {c Us m:Nat}{w:W}(h:jd c w)(he:w.e=0):jd c (Xc Us m w):=by
 obtain⟨h1,h2,h3⟩:=h he;unfold Xc;split
 ·intro _;exact⟨(h1.bx _ _).bx _ _,cm (tb _) h2,C3 h3⟩
 ·split
  ·intro _;exact⟨((h1.bx _ _).bK (by simp[kt]) ux).bx _ _,cm (tb _) h2,C3 h3⟩
  ·rename_i hh;intro hb;exact absurd hb hh
theorem oI {c Us:Nat}{pb:aI->W}(hp:∀n,WI n->jd c (pb n)):∀k n,WI n->jd c (iG Us pb k n)
 |0,n,hn=>hp n hn
 |k+1,n,hn=>by
  unfold iG;split
  ·have:=oI (Us:=Us) hp k _ (hn.bK (x:=Wc Us) (by simp[Wc]) wg);split
   ·exact A2 this (by assumption)
   ·exact this
  ·rename_i hh;intro hb;exact absurd hb hh
theorem FZ (h:bY pg){Us:Nat}{n:aI}{tk tn:Int}{ts:List UInt8}{tl:List (List PV)}{w:W}(hp:fB pg 37 [.ag [.p (.sl (n.ae.map Up.aw)),.p (.i .i64 n.aV)],.ag [.p (.i .i64 tk),.p (.i .i64 tn),.p (.s ts),.p (.sl tl)],.p (.i .i64 Us)] w) :
  fB pg 51 [.ag [.p (.sl (n.ae.map Up.aw)),.p (.i .i64 n.aV)],.ag [.p (.i .i64 tk),.p (.i .i64 tn),.p (.s ts),.p (.sl tl)],.p (.i .i64 0),.p (.i .i64 Us)] w:=by
 obtain⟨v,O,hc,hv⟩:=hp;obtain⟨v',O',h1,h2⟩:=we (pg:=pg) (G:=[.box [.p (.sl (n.ae.map Up.aw)),.p (.i .i64 n.aV)],.box [.p (.i .i64 tk),.p (.i .i64 tn),.p (.s ts),.p (.sl tl)],.box bU]) hc hv rfl;obtain⟨a,x,y,z,L,l,rfl,q1,q2,q3⟩:=h2;simp only[bU]at h1;have hfl:L.flat=true:=by rcases q2 with ⟨rfl,_⟩|⟨k,g,rfl,_⟩<;>rfl
 have hfa:a.flat=true:=by rcases q1 with rfl|⟨r,rfl⟩<;>rfl
 have hE:∀b1 b2 b3:fE,EV 0 L (b1::b2::b3::O') l:=by
  intro b1 b2 b3;rcases q2 with ⟨rfl,rfl⟩|⟨k,g,rfl,hk⟩
  ·exact .inl ⟨rfl,rfl⟩
  ·exact .inr ⟨k+3,g,rfl,by simpa using hk⟩
 refine⟨iF a x y z L w.e,.box [.p (.sl (n.ae.map Up.aw)),.p (.i .i64 n.aV)]::.box [.p (.i .i64 tk),.p (.i .i64 tn),.p (.s ts),.p (.sl tl)]::.box (iF a x y z L w.e)::O',?_,⟨a,x,y,z,L,l,rfl,q1,hE _ _ _,q3⟩⟩;rw[h.run (x:=YD)];rcases q1 with rfl|⟨r,rfl⟩<;>rcases q2 with ⟨rfl,_⟩|⟨k,g,rfl,_⟩<;>simp only[iF]at h1 ⊢<;>simp[YD,aj,h1]
theorem Ot (h:bY pg){c Us:Nat}{pb:aI->W}{tk tn:Int}{ts:List UInt8}{tl:List (List PV)}(hc:c<2 ^ 17)(hg:∀n,WI n->jd c (pb n))(hp:∀n,WI n->fB pg 37 [.ag [.p (.sl (n.ae.map Up.aw)),.p (.i .i64 n.aV)],.ag [.p (.i .i64 tk),.p (.i .i64 tn),.p (.s ts),.p (.sl tl)],.p (.i .i64 Us)] (pb n)) :
  ∀(k:Nat) (n:aI),k<2 ^ 30->WI n->fB pg 51 [.ag [.p (.sl (n.ae.map Up.aw)),.p (.i .i64 n.aV)],.ag [.p (.i .i64 tk),.p (.i .i64 tn),.p (.s ts),.p (.sl tl)],.p (.i .i64 k),.p (.i .i64 Us)] (iG Us pb k n)
 |0,n,hk,hn=>FZ h (hp n hn)
 |k+1,n,hk,hn=>by
  have e50:=λG=>D3 (G:=G) (k:=2) (K:=2) (Us:=Us) h rfl hn (by omega) wg;have hwm:=hn.bK (x:=Wc Us) (by simp[Wc]) wg;have hcm:=aI.V0 n (Wc Us);rw[show(⟨2,Us,0,[],[],[]⟩:Up)=Wc Us from rfl]at e50;have hw51:IntKind.i64.wrap (k:Int)=k:=cR _;unfold iG;generalize hR:n.bK (Wc Us)=R at *;obtain⟨m,s,err⟩:=R;dsimp only at hwm hcm ⊢;have hk0:¬ ((k:Int)+1)=0:=by omega
  by_cases he:err=0
  ·subst he;rw[ah rfl];have ih:=Ot h hc hg hp k m (by omega) hwm;have hgw:=oI (Us:=Us) hg k m hwm;generalize hw0:iG Us pb k m=w at *;obtain⟨v,O,hcl,hv⟩:=ih;obtain⟨v',O',h1,h2⟩:=we (pg:=pg) (G:=[.box [.p (.sl (m.ae.map Up.aw)),.p (.i .i64 m.aV)],.box [.p (.i .i64 tk),.p (.i .i64 tn),.p (.s ts),.p (.sl tl)],.box bU]) hcl hv rfl;obtain⟨a,x,y,z,L,l,rfl,q1,q2,q3⟩:=h2;simp only[bU,hcm]at h1;by_cases hwe:w.e=0
   ·rw[ah hwe];obtain⟨rfl,rfl,rfl,rfl,rfl⟩:=q3 hwe;obtain⟨g1,g2,g3⟩:=hgw hwe;have e38:=λG=>t38 (G:=G) (p:=w.out) (q:=⟨s,1⟩) h g1.nh;have hcl:=aI.dq w.n w.out ⟨s,1⟩;have hw1:=g1.bx w.out ⟨s,1⟩;have hcW:Xc Us s w=match jT w.l 0 with
     |some i=>⟨(w.n.bx w.out ⟨s,1⟩).bx (w.l.getD i default).p ⟨s,2⟩,⟨s,0⟩,eN w.l,0⟩
     |none=>if ((w.n.bx w.out ⟨s,1⟩).bK (kt Us)).2.2=0 then
       ⟨((w.n.bx w.out ⟨s,1⟩).bK (kt Us)).1.bx ⟨((w.n.bx w.out ⟨s,1⟩).bK (kt Us)).2.1,0⟩ ⟨s,2⟩,⟨s,0⟩,eN w.l,0⟩
      else pN ((w.n.bx w.out ⟨s,1⟩).bK (kt Us)).2.2:=rfl
    rw[hcW];generalize hn1:w.n.bx w.out ⟨s,1⟩=n1 at *;have d50:=λG=>D3 (G:=G) (k:=7) (K:=7) (Us:=Us) h rfl hw1 (by omega) ux;have hwd:=hw1.bK (x:=kt Us) (by simp[kt]) ux;have hcd:=aI.V0 n1 (kt Us);rw[show(⟨7,Us,0,[],[],[]⟩:Up)=kt Us from rfl]at d50;generalize hD:n1.bK (kt Us)=D at *;obtain⟨nd,sd,ed⟩:=D;dsimp only at hwd hcd ⊢;have f38:=λG=>t38 (G:=G) (p:=⟨sd,0⟩) (q:=⟨s,2⟩) h hwd.nh;have hcf:=aI.dq nd ⟨sd,0⟩ ⟨s,2⟩;rw[hcd,hcl]at hcf;rw[hcl]at hcd;simp only[hcl,hcd,hcf]at e38 f38 d50;generalize hn2:nd.bx ⟨sd,0⟩ ⟨s,2⟩=n2 at *;rcases q2 with ⟨rfl,hl0⟩|⟨k',g,rfl,hk'⟩
    ·have e71:∀G,UM pg (E pg) 71 [.aC,.p (.i .i64 0)] G=some (.ret (.p (.i .i64 (-1))),G):=λG=>Y0 (v:=0) h;rw[hl0];rw[show jT [] 0=none from rfl];dsimp only;by_cases hed:ed=0
     ·subst hed;rw[ah rfl];have hL:=Oq (body:=qu) h rfl (r8:=bU) (n:=n2) (o1:=s) (o2:=0) (g:=0);refine⟨dN n2 s 0 (.arr 2 0 0) 0,[.box (dN n2 s 0 (.arr 2 0 0) 0),.box (dN n2 s 0 (.arr 2 0 0) 0),.arr 3 [] 0 0],?_,⟨_,_,_,_,_,[],rfl,.inr ⟨_,rfl⟩,.inr ⟨2,0,rfl,rfl⟩,λ_=>⟨rfl,rfl,rfl,rfl,rfl⟩⟩⟩;rw[h.run (x:=YD)];simp only[iF,fv,dN,bU,hcf,hwe,fW,WW,zj]at h1 e50 e38 d50 f38 hL ⊢;simp[YD,aj,e50,hcm,hk0,hw51,h1,D4,D5,Y2,Y3,e38,hcl,t39 h,Yq h,eu,gC,eU,e71,d50,f38,hcd,hcf,qh,Uu.Uv,gc,exp,aQ,UG];rw[hL];simp[aj]
     ·have hed':¬ (ed:Int)=0:=by omega
      rw[aa hed];refine⟨cB ed,.box [.p (.sl (m.ae.map Up.aw)),.p (.i .i64 n.aV)]::.box [.p (.i .i64 tk),.p (.i .i64 tn),.p (.s ts),.p (.sl tl)]::.box (cB ed)::(O'++[.box (dN n1 s 0 .aC 0),.box [.p (.sl (nd.ae.map Up.aw)),.p (.i .i64 w.n.aV)],.box (cB ed)]),?_,.bad 0 ed _ hed⟩;rw[h.run (x:=YD)];simp only[iF,fv,dN,bU,cB,hcf,hwe,fW,WW,zj]at h1 e50 e38 d50 f38 ⊢;simp[YD,aj,e50,hcm,hk0,hw51,h1,D4,D5,Y2,Y3,e38,hcl,t39 h,Yq h,eu,gC,eU,e71,d50,f38,hcd,hcf,hed,hed',t70 h,cB]
    ·have hkl:=(gE hk').1;have hne1:¬ O'.length=k':=by omega
     have hne2:¬ O'.length+1=k':=by omega
     have hne3:¬ O'.length+1+1=k':=by omega
     have e71:=B9 (G:=.box [.p (.sl (m.ae.map Up.aw)),.p (.i .i64 n.aV)]::.box [.p (.i .i64 tk),.p (.i .i64 tn),.p (.s ts),.p (.sl tl)]::.box bU::(O'++[.box (dN n1 s 0 (.arr (k'+3) w.l.length g) 0)])) (id:=k'+3) (g:=g) (s:=0) (v:=0) (l:=w.l) h (by omega) (by
      simp only[List.getElem?_cons_succ];rw[List.getElem?_append_left hkl,hk'])
     simp only[bF,dN,hcl]at e71;rw[List.set_append_left _ _ hkl]at e71;have hO2:(O'.set k' (.arr 3 (w.l.map bW.aw) g (Nat.max 0 w.l.length))).length=O'.length:=by simp
     have hk2:∀T,(O'.set k' (.arr 3 (w.l.map bW.aw) g (Nat.max 0 w.l.length))++T)[k']?=some (.arr 3 (w.l.map bW.aw) g (Nat.max 0 w.l.length)):=λT=>by
      rw[List.getElem?_append_left (by simpa using hkl),List.getElem?_set_self hkl]
     generalize O'.set k' (.arr 3 (w.l.map bW.aw) g (Nat.max 0 w.l.length))=O2 at *;have hmax:Nat.max 0 w.l.length=w.l.length:=fD (dv _);rw[hmax]at hk2;have hkO:∀T,(O'++T)[k']?=some (.arr 3 (w.l.map bW.aw) g 0):=λT=>by rw[List.getElem?_append_left hkl,hk']
     cases hf:jT w.l 0 with
     |some i =>
      rw[hf]at e71;obtain⟨hi,_,_⟩:=List.findIdx?_eq_some_iff_getElem.1 hf;have hgd:w.l.getD i default=w.l[i]:=by rw[List.getD_eq_getElem?_getD,gG hi];rfl
      dsimp only;rw[hgd];have p38:=λG=>t38 (G:=G) (p:=w.l[i].p) (q:=⟨s,2⟩) h hw1.nh;have hcp:=aI.dq n1 w.l[i].p ⟨s,2⟩;rw[hcl]at hcp;simp only[hcl,hcp]at p38;generalize hn3:n1.bx w.l[i].p ⟨s,2⟩=n3 at *;have hL:=MJ (body:=qu) h rfl (r8:=bU) (λe=>by simp[bU,aQ,exp]) (n:=n3) (o1:=s) (o2:=0) (l:=w.l) (gl:=g) (sl:=w.l.length) (by omega) g3 w.l.length 0 [] 0 (by omega) (by simp);have hgi:(List.map bW.aw w.l)[i]?=some [iv w.l[i].v,iv w.l[i].p.aD,iv w.l[i].p.aT]:=by rw[List.getElem?_map,gG hi];rfl
      have hi2:(i:Int)<w.l.length:=by omega
      have hi3:(0:Int)<=i:=by omega
      refine⟨dN n3 s 0 (.arr 2 (eN w.l).length (eN w.l).length) 0,[.box (dN n3 s 0 (.arr 2 (eN w.l).length (eN w.l).length) 0),.box (dN n3 s 0 (.arr 2 (eN w.l).length (eN w.l).length) 0),.arr 3 ((eN w.l).map bW.aw) (eN w.l).length 0,.arr 3 (w.l.map bW.aw) g w.l.length],?_,⟨_,_,_,_,_,eN w.l,rfl,.inr ⟨_,rfl⟩,.inr ⟨2,_,rfl,rfl⟩,λ_=>⟨rfl,rfl,rfl,rfl,rfl⟩⟩⟩;rw[h.run (x:=YD)];simp only[iF,fv,dN,bU,hcp,hwe,dB,bp,aL,aJ,au,aG,fW,WW,zj]at h1 e50 e38 p38 hL e71 ⊢;simp only[av,aJ,aG]at h1;simp[YD,aj,e50,hcm,hk0,hw51,h1,D4,D5,Y2,Y3,hO2,hk2,e38,hcl,t39 h,Yq h,eu,gC,eU,e71,p38,hcp,hi,hi2,hi3,hgi,bW.aw,qh,Uu.Uv,gc,exp,aQ,UG,hne1,hne2,hne3];rw[hL];simp[aj]
     |none =>
      rw[hf]at e71;dsimp only;by_cases hed:ed=0
      ·subst hed;rw[ah rfl];have hL:=MJ (body:=qu) h rfl (r8:=bU) (λe=>by simp[bU,aQ,exp]) (n:=n2) (o1:=s) (o2:=0) (l:=w.l) (gl:=g) (sl:=w.l.length) (by omega) g3 w.l.length 0 [] 0 (by omega) (by simp);refine⟨dN n2 s 0 (.arr 2 (eN w.l).length (eN w.l).length) 0,[.box (dN n2 s 0 (.arr 2 (eN w.l).length (eN w.l).length) 0),.box (dN n2 s 0 (.arr 2 (eN w.l).length (eN w.l).length) 0),.arr 3 ((eN w.l).map bW.aw) (eN w.l).length 0,.arr 3 (w.l.map bW.aw) g w.l.length],?_,⟨_,_,_,_,_,eN w.l,rfl,.inr ⟨_,rfl⟩,.inr ⟨2,_,rfl,rfl⟩,λ_=>⟨rfl,rfl,rfl,rfl,rfl⟩⟩⟩;rw[h.run (x:=YD)];simp only[iF,fv,dN,bU,hcf,hwe,dB,bp,aL,aJ,au,aG,fW,WW,zj]at h1 e50 e38 f38 d50 hL e71 ⊢;simp only[av,aJ,aG]at h1;simp[YD,aj,e50,hcm,hk0,hw51,h1,D4,D5,Y2,Y3,hO2,hk2,e38,hcl,t39 h,Yq h,eu,gC,eU,e71,f38,d50,hcf,hcd,qh,Uu.Uv,gc,exp,aQ,UG,hne1,hne2,hne3];rw[hL];simp[aj]
      ·have hed':¬ (ed:Int)=0:=by omega
       rw[aa hed];refine⟨cB ed,.box [.p (.sl (m.ae.map Up.aw)),.p (.i .i64 n.aV)]::.box [.p (.i .i64 tk),.p (.i .i64 tn),.p (.s ts),.p (.sl tl)]::.box (cB ed)::(O2++[.box (dN n1 s 0 (.arr (k'+3) w.l.length g) 0),.box [.p (.sl (nd.ae.map Up.aw)),.p (.i .i64 w.n.aV)],.box (cB ed)]),?_,.bad 0 ed _ hed⟩;rw[h.run (x:=YD)];simp only[iF,fv,dN,bU,cB,hcf,hwe,dB,fW,WW,zj]at h1 e50 e38 d50 f38 e71 ⊢;simp only[av,aJ,aG]at h1;simp[YD,aj,e50,hcm,hk0,hw51,h1,D4,D5,Y2,Y3,hO2,hk2,e38,hcl,t39 h,Yq h,eu,gC,eU,e71,f38,d50,hcf,hcd,hed,hed',t70 h,cB]
   ·rw[aa hwe];have hwe':¬ (w.e:Int)=0:=by omega
    have hE:∀(b1 b2 b3 b4:fE),EV 0 L (b1::b2::b3::(O'++[b4])) l:=by
     intro b1 b2 b3 b4;rcases q2 with ⟨rfl,rfl⟩|⟨k',g,rfl,hk'⟩
     ·exact .inl ⟨rfl,rfl⟩
     ·refine .inr ⟨k'+3,g,rfl,?_⟩;have:=(gE hk').1;simp only[List.getElem?_cons_succ];rw[List.getElem?_append_left this,hk']
    refine⟨iF a x y z L w.e,.box [.p (.sl (m.ae.map Up.aw)),.p (.i .i64 n.aV)]::.box [.p (.i .i64 tk),.p (.i .i64 tn),.p (.s ts),.p (.sl tl)]::.box (iF a x y z L w.e)::(O'++[.box (iF a x y z L w.e)]),?_,⟨a,x,y,z,L,l,rfl,q1,hE _ _ _ _,q3⟩⟩;rw[h.run (x:=YD)];rcases q1 with rfl|⟨r,rfl⟩<;>rcases q2 with ⟨rfl,_⟩|⟨k,g,rfl,_⟩<;>simp only[iF,fv]at h1 e50 ⊢<;>simp[YD,aj,e50,hcm,hk0,hw51,h1,D4,D5,hwe,hwe']
  ·rw[aa he];have he':¬ (err:Int)=0:=by omega
   refine⟨cB err,[.box [.p (.sl (m.ae.map Up.aw)),.p (.i .i64 n.aV)],.box [.p (.i .i64 tk),.p (.i .i64 tn),.p (.s ts),.p (.sl tl)],.box (cB err),.box (cB err)],?_,.bad 0 err _ he⟩
   ·rw[h.run (x:=YD)];simp only[fv]at e50;simp[YD,aj,e50,hcm,hk0,he,he',t70 h,cB]
theorem gB (p:Prop):p=True\/p=False:=by by_cases h:p<;>simp[h]
theorem Yr {c Us:Nat}{w:W}(h:jd c w):jd c (jI Us w):=by
 unfold jI;split
 ·rename_i e;obtain⟨h1,h2,h3⟩:=h e;intro _;refine⟨A1 _ h1,by rw[Xl];exact h2,?_⟩;have:∀(l:List bW) (n:aI),(∀e∈l,e.v<2 ^ 40)->∀e∈(dE Us n l).2.1,e.v<2 ^ 40:=by
   intro l
   induction l with
   |nil=>intro n _ e he;simp[dE]at he
   |cons x r ih =>
    intro n hx e he;unfold dE at he;split at he
    ·simp only[aA]at he;rcases he with rfl|he
     ·exact hx x (by simp)
     ·exact ih _ (λe he=>hx e (by simp[he])) e he
    ·simp only[aA]at he;rcases he with rfl|he
     ·exact hx x (by simp)
     ·exact hx e (by simp[he])
  exact this _ _ h3
 ·exact h
theorem JV (h:bY pg){Us i:Nat}{n:aI}{tk tn xk xn:Int}{ts xs:List UInt8}{ay xl:List (List PV)}{w:W}(hx:ay[i]?=some [iv xk,iv xn,.s xs,.sl xl])(h4:tk≠4)(h3:¬ (tk=3/\i=1))(h5:¬ (tk=5/\0<i))
  (hp:fB pg 37 [.ag [.p (.sl (n.ae.map Up.aw)),.p (.i .i64 n.aV)],.ag [.p (.i .i64 xk),.p (.i .i64 xn),.p (.s xs),.p (.sl xl)],.p (.i .i64 Us)] w) :
  fB pg 72 [.ag [.p (.sl (n.ae.map Up.aw)),.p (.i .i64 n.aV)],.ag [.p (.i .i64 tk),.p (.i .i64 tn),.p (.s ts),.p (.sl ay)],.p (.i .i64 i),.p (.i .i64 Us)] w:=by
 obtain⟨v,O,hc,hv⟩:=hp;obtain⟨v',O',h1,h2⟩:=we (pg:=pg) (G:=[.box [.p (.sl (n.ae.map Up.aw)),.p (.i .i64 n.aV)],.box [.p (.i .i64 tk),.p (.i .i64 tn),.p (.s ts),.p (.sl ay)],.box bU,.box [.p (.i .i64 xk),.p (.i .i64 xn),.p (.s xs),.p (.sl xl)]]) hc hv rfl;obtain⟨a,x,y,z,L,l,rfl,q1,q2,q3⟩:=h2;simp only[bU]at h1;have hE:∀b1 b2 b3 b4:fE,EV 0 L (b1::b2::b3::b4::O') l:=by
  intro b1 b2 b3 b4;rcases q2 with ⟨rfl,rfl⟩|⟨k,g,rfl,hk⟩
  ·exact .inl ⟨rfl,rfl⟩
  ·exact .inr ⟨k+4,g,rfl,by simpa using hk⟩
 refine⟨iF a x y z L w.e,.box [.p (.sl (n.ae.map Up.aw)),.p (.i .i64 n.aV)]::.box [.p (.i .i64 tk),.p (.i .i64 tn),.p (.s ts),.p (.sl ay)]::.box (iF a x y z L w.e)::.box [.p (.i .i64 xk),.p (.i .i64 xn),.p (.s xs),.p (.sl xl)]::O',?_,⟨a,x,y,z,L,l,rfl,q1,hE _ _ _ _,q3⟩⟩;obtain⟨hi1,hi2⟩:=gE hx;have okr:aS 4 [iv xk,iv xn,.s xs,.sl xl]=true:=rfl;rw[h.run (x:=H9)];rcases gB (tk=3) with c3|c3<;>rcases gB (tk=5) with c5|c5<;>rcases gB (i=1) with ci|ci<;>rcases gB (0<i) with cp|cp
 all_goals first|(exfalso;simp only[eq_iff_iff,iff_true,iff_false]at c3 c5 ci cp;omega)|skip
 all_goals have ci':((i:Int)=1)=(i=1):=propext ⟨λ_=>by omega,λ_=>by omega⟩
 all_goals have cp':((0:Int)<i)=(0<i):=propext ⟨λ_=>by omega,λ_=>by omega⟩
 all_goals rcases q1 with rfl|⟨r,rfl⟩<;>rcases q2 with ⟨rfl,_⟩|⟨k,g,rfl,_⟩<;>simp only[iF]at h1 ⊢<;>simp[H9,aj,hx,hi1,hi2,okr,h4,c3,c5,ci,cp,ci',cp',h1]
theorem L5 (h:bY pg){c Us i:Nat}{n:aI}{tk tn xk xn:Int}{ts xs:List UInt8}{ay xl:List (List PV)}{w:W}(hx:ay[i]?=some [iv xk,iv xn,.s xs,.sl xl])(ht:tk=4\/(tk=3/\i=1))(hlev:Us<2 ^ 40)
  (hg:jd c w) (hc:c<2 ^ 17) (hp:fB pg 37 [.ag [.p (.sl (n.ae.map Up.aw)),.p (.i .i64 n.aV)],.ag [.p (.i .i64 xk),.p (.i .i64 xn),.p (.s xs),.p (.sl xl)],.p (.i .i64 (Us+1:Nat))] w) :
  fB pg 72 [.ag [.p (.sl (n.ae.map Up.aw)),.p (.i .i64 n.aV)],.ag [.p (.i .i64 tk),.p (.i .i64 tn),.p (.s ts),.p (.sl ay)],.p (.i .i64 i),.p (.i .i64 Us)] (jI Us w):=by
 obtain⟨v,O,hcl,hv⟩:=hp;obtain⟨v1,O1,h1,h2⟩:=we (pg:=pg) (G:=[.box [.p (.sl (n.ae.map Up.aw)),.p (.i .i64 n.aV)],.box [.p (.i .i64 tk),.p (.i .i64 tn),.p (.s ts),.p (.sl ay)],.box bU,.box [.p (.i .i64 xk),.p (.i .i64 xn),.p (.s xs),.p (.sl xl)]]) hcl hv rfl;obtain⟨v2,O2,h3,h4⟩:=t97 h (Us:=Us) h2 (λe=>(hg e).1) (λe=>by have:=(hg e).2.1;omega);obtain⟨a,x,y,z,L,l,rfl,q1,q2,q3⟩:=h4;obtain⟨a',x',y',z',L',l',rfl,_,_,_⟩:=h2;simp only[bU]at h1 h3;have hE:∀b1 b2 b3 b4:fE,EV 0 L (b1::b2::b3::b4::O2) l:=by
  intro b1 b2 b3 b4;rcases q2 with ⟨rfl,rfl⟩|⟨k,g,rfl,hk⟩
  ·exact .inl ⟨rfl,rfl⟩
  ·exact .inr ⟨k+4,g,rfl,by simpa using hk⟩
 refine⟨iF a x y z L (jI Us w).e,.box [.p (.sl (n.ae.map Up.aw)),.p (.i .i64 n.aV)]::.box [.p (.i .i64 tk),.p (.i .i64 tn),.p (.s ts),.p (.sl ay)]::.box (iF a x y z L (jI Us w).e)::.box [.p (.i .i64 xk),.p (.i .i64 xn),.p (.s xs),.p (.sl xl)]::O2,?_,⟨a,x,y,z,L,l,rfl,q1,hE _ _ _ _,q3⟩⟩;obtain⟨hi1,hi2⟩:=gE hx;have okr:aS 4 [iv xk,iv xn,.s xs,.sl xl]=true:=rfl;have hw1:IntKind.i64.wrap ((Us:Int)+1)=(Us:Int)+1:=cR _;simp only[bV,WW]at h1;have ci':((i:Int)=1)=(i=1):=propext ⟨λ_=>by omega,λ_=>by omega⟩;rw[h.run (x:=H9)];generalize jI Us w=bw at *;rcases ht with rfl|⟨rfl,rfl⟩
 ·rcases q1 with rfl|⟨r,rfl⟩<;>rcases q2 with ⟨rfl,_⟩|⟨k,g,rfl,_⟩<;>simp only[iF,aH,aL]at h1 h3 ⊢<;>simp[H9,aj,hx,hi1,hi2,okr,h1,h3,hw1]
 ·rcases q1 with rfl|⟨r,rfl⟩<;>rcases q2 with ⟨rfl,_⟩|⟨k,g,rfl,_⟩<;>simp only[iF,aH,aL]at h1 h3 ⊢<;>simp[H9,aj,hx,hi1,hi2,okr,h1,h3,hw1]
theorem Ou (h:bY pg){Us i k:Nat}{n:aI}{tn xk yk yn:Int}{ts xs ys:List UInt8}{ay yl rest:List (List PV)}{w:W}(hx:ay[i]?=some [iv xk,iv k,.s xs,.sl ([iv yk,iv yn,.s ys,.sl yl]::rest)])(hi:0<i)(hr:bH 4 rest=true)
  (hp:fB pg 51 [.ag [.p (.sl (n.ae.map Up.aw)),.p (.i .i64 n.aV)],.ag [.p (.i .i64 yk),.p (.i .i64 yn),.p (.s ys),.p (.sl yl)],.p (.i .i64 k),.p (.i .i64 Us)] w) :
  fB pg 72 [.ag [.p (.sl (n.ae.map Up.aw)),.p (.i .i64 n.aV)],.ag [.p (.i .i64 5),.p (.i .i64 tn),.p (.s ts),.p (.sl ay)],.p (.i .i64 i),.p (.i .i64 Us)] w:=by
 obtain⟨v,O,hc,hv⟩:=hp;obtain⟨v',O',h1,h2⟩:=we (pg:=pg) (G:=[.box [.p (.sl (n.ae.map Up.aw)),.p (.i .i64 n.aV)],.box [.p (.i .i64 5),.p (.i .i64 tn),.p (.s ts),.p (.sl ay)],.box bU,.box [.p (.i .i64 xk),.p (.i .i64 k),.p (.s xs),.p (.sl ([iv yk,iv yn,.s ys,.sl yl]::rest))]]) hc hv rfl;obtain⟨a,x,y,z,L,l,rfl,q1,q2,q3⟩:=h2;simp only[bU]at h1;have hE:∀b1 b2 b3 b4:fE,EV 0 L (b1::b2::b3::b4::O') l:=by
  intro b1 b2 b3 b4;rcases q2 with ⟨rfl,rfl⟩|⟨k,g,rfl,hk⟩
  ·exact .inl ⟨rfl,rfl⟩
  ·exact .inr ⟨k+4,g,rfl,by simpa using hk⟩
 refine⟨iF a x y z L w.e,.box [.p (.sl (n.ae.map Up.aw)),.p (.i .i64 n.aV)]::.box [.p (.i .i64 5),.p (.i .i64 tn),.p (.s ts),.p (.sl ay)]::.box (iF a x y z L w.e)::.box [.p (.i .i64 xk),.p (.i .i64 k),.p (.s xs),.p (.sl ([iv yk,iv yn,.s ys,.sl yl]::rest))]::O',?_,⟨a,x,y,z,L,l,rfl,q1,hE _ _ _ _,q3⟩⟩;obtain⟨hi1,hi2⟩:=gE hx;have okr:aS 4 [iv xk,iv k,.s xs,.sl ([iv yk,iv yn,.s ys,.sl yl]::rest)]=true:=rfl;have okr2:aS 4 [iv yk,iv yn,.s ys,.sl yl]=true:=rfl;have cp':(0:Int)<i:=by omega
 rw[h.run (x:=H9)];rcases q1 with rfl|⟨r,rfl⟩<;>rcases q2 with ⟨rfl,_⟩|⟨k,g,rfl,_⟩<;>simp only[iF]at h1 ⊢<;>simp[H9,aj,hx,hi1,hi2,okr,okr2,hi,cp',h1]
end
end Go.Proofs.Z

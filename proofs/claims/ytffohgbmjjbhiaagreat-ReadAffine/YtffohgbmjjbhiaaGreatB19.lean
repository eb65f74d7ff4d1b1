/- A part of the proof. -/
import Derived.Test.YtffohgbmjjbhiaaGreatB18
set_option linter.all false
namespace Go.Proofs.Z
section
variable {G:Heap}
set_option maxRecDepth 100000
theorem HD {x y:Up}(h:x.raw=y.raw):x=y:=by
 obtain⟨k,l,n,s,a,t⟩:=x;obtain⟨k',l',n',s',a',t'⟩:=y;simp only[Up.raw,UK.mk.injEq]at h;obtain⟨h1,h2,h3,h4,h5,h6⟩:=h;have ha:a=a':=(fT (λp q e=>by
  simp only[k_,eK]at e;exact mE e.1 (by omega))).1 h5
 have ht:t=t':=(fT (λp q e=>by
  simp only[aq.raw,eK]at e;cases p;cases q;simp only[aq.mk.injEq]at e ⊢;omega)).1 h6
 subst h3 h4 ha ht;have:k=k':=by omega
 have:l=l':=by omega
 subst_vars;rfl
theorem jD {n:aI}(h:kK (n.ae.map Up.raw) n.aV=true):n.Ok:=by
 obtain⟨m,h1,h2,h3⟩:=vy h;have e1:m.ae=n.ae:=(fT (λx y e=>HD e)).1 h2;have e2:m.aV=n.aV:=by omega
 have:m=n:=by cases m;cases n;simp only[aI.mk.injEq];exact⟨e1,e2⟩
 rw[<- this];exact h1
theorem YS:E iE 44 [.p (.s ML),.p (.i .i64 150)] []=some (.ret (.dF [.ag O0,.p (.i .i64 0),.p (.i .i64 0)]),[]):=gh.2 ⟨200,by kernel_rfl⟩
theorem F3:E iE 45 [.ag O0] []=some (.ret (.dF [.ag (bP JY.tm.aw),.p (.i .i64 0),.p (.i .i64 0)]),[]):=gh.2 ⟨200,by kernel_rfl⟩
theorem F4:E iE 18 [.ag (bP JY.tm.aw),.p (.i .i64 0)] []=some (.ret (.p (.b true)),[]):=gh.2 ⟨200,by kernel_rfl⟩
theorem C6:Fits JY 0 0:=⟨by kernel_rfl,UC (by kernel_rfl),UC (by kernel_rfl),UC (by kernel_rfl)⟩
theorem C7:(JY.cS 4000).2=0:=by kernel_rfl
theorem F5:(JY.cS 4000).1.Ok:=jD (by kernel_rfl)
theorem JZ:E iE 44 [.p (.s Ow),.p (.i .i64 150)] []=some (.ret (.dF [.ag Zb,.p (.i .i64 0),.p (.i .i64 0)]),[]):=gh.2 ⟨200,by kernel_rfl⟩
theorem J0:E iE 45 [.ag Zb] []=some (.ret (.dF [.ag (bP KG.tm.aw),.p (.i .i64 0),.p (.i .i64 0)]),[]):=gh.2 ⟨200,by kernel_rfl⟩
theorem J1:E iE 18 [.ag (bP KG.tm.aw),.p (.i .i64 0)] []=some (.ret (.p (.b true)),[]):=gh.2 ⟨200,by kernel_rfl⟩
theorem HE:Fits KG 0 0:=⟨by kernel_rfl,UC (by kernel_rfl),UC (by kernel_rfl),UC (by kernel_rfl)⟩
theorem HF:(KG.cS 4000).2=0:=by kernel_rfl
theorem J2:(KG.cS 4000).1.Ok:=jD (by kernel_rfl)
theorem J3:E iE 44 [.p (.s Ox),.p (.i .i64 150)] []=some (.ret (.dF [.ag Zc,.p (.i .i64 0),.p (.i .i64 0)]),[]):=gh.2 ⟨200,by kernel_rfl⟩
theorem J4:E iE 45 [.ag Zc] []=some (.ret (.dF [.ag (bP KH.tm.aw),.p (.i .i64 0),.p (.i .i64 0)]),[]):=gh.2 ⟨200,by kernel_rfl⟩
theorem J5:E iE 18 [.ag (bP KH.tm.aw),.p (.i .i64 0)] []=some (.ret (.p (.b true)),[]):=gh.2 ⟨200,by kernel_rfl⟩
theorem HG:Fits KH 0 0:=⟨by kernel_rfl,UC (by kernel_rfl),UC (by kernel_rfl),UC (by kernel_rfl)⟩
theorem HH:(KH.cS 4000).2=0:=by kernel_rfl
theorem J6:(KH.cS 4000).1.Ok:=jD (by kernel_rfl)
theorem J7:E iE 44 [.p (.s Oy),.p (.i .i64 150)] []=some (.ret (.dF [.ag Zd,.p (.i .i64 0),.p (.i .i64 0)]),[]):=gh.2 ⟨200,by kernel_rfl⟩
theorem J8:E iE 45 [.ag Zd] []=some (.ret (.dF [.ag (bP KI.tm.aw),.p (.i .i64 0),.p (.i .i64 0)]),[]):=gh.2 ⟨200,by kernel_rfl⟩
theorem J9:E iE 18 [.ag (bP KI.tm.aw),.p (.i .i64 0)] []=some (.ret (.p (.b true)),[]):=gh.2 ⟨200,by kernel_rfl⟩
theorem HI:Fits KI 0 0:=⟨by kernel_rfl,UC (by kernel_rfl),UC (by kernel_rfl),UC (by kernel_rfl)⟩
theorem HJ:(KI.cS 4000).2=0:=by kernel_rfl
theorem J_:(KI.cS 4000).1.Ok:=jD (by kernel_rfl)
theorem F6:(bI (JY.cS 4000).1 true 5000).2=(0,.mk 2 0 [67,111,110,115] [.mk 1 2 [] [],.mk 2 0 [78,105,108] []]):=by kernel_rfl
theorem Ka:E iE 26 [.ag (bP (aO.aw (.mk 2 0 [67,111,110,115] [.mk 1 2 [] [],.mk 2 0 [78,105,108] []])))] []=some (.ret (.p (.s [40,67,111,110,115,32,50,32,78,105,108,41])),[]):=gh.2 ⟨200,by kernel_rfl⟩
theorem F7:(bI (JY.cS 4000).1 false 5000).2=(0,.mk 2 0 [67,111,110,115] [.mk 5 0 [] [],.mk 5 0 [] []]):=by kernel_rfl
theorem Kb:E iE 26 [.ag (bP (aO.aw (.mk 2 0 [67,111,110,115] [.mk 5 0 [] [],.mk 5 0 [] []])))] []=some (.ret (.p (.s [40,67,111,110,115,32,63,32,63,41])),[]):=gh.2 ⟨200,by kernel_rfl⟩
theorem F8:(bI (KG.cS 4000).1 true 5000).2=(0,.mk 2 0 [67,111,110,115] [.mk 1 6 [] [],.mk 2 0 [67,111,110,115] [.mk 1 6 [] [],.mk 1 6 [] []]]):=by kernel_rfl
theorem Kc:E iE 26 [.ag (bP (aO.aw (.mk 2 0 [67,111,110,115] [.mk 1 6 [] [],.mk 2 0 [67,111,110,115] [.mk 1 6 [] [],.mk 1 6 [] []]])))] []=some (.ret (.p (.s [40,67,111,110,115,32,54,32,40,67,111,110,115,32,54,32,54,41,41])),[]):=gh.2 ⟨200,by kernel_rfl⟩
theorem F9:(bI (KH.cS 4000).1 true 5000).2=(0,.mk 3 0 [] []):=by kernel_rfl
theorem Kd:E iE 26 [.ag (bP (aO.aw (.mk 3 0 [] [])))] []=some (.ret (.p (.s [102,117,110])),[]):=gh.2 ⟨200,by kernel_rfl⟩
theorem F_:(bI (KI.cS 4000).1 true 5000).2=(0,.mk 2 0 [78,105,108] []):=by kernel_rfl
theorem Ke:E iE 26 [.ag (bP (aO.aw (.mk 2 0 [78,105,108] [])))] []=some (.ret (.p (.s [78,105,108])),[]):=gh.2 ⟨200,by kernel_rfl⟩
end
end Go.Proofs.Z

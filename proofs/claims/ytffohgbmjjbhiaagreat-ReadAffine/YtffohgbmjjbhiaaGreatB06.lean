/- A part of the proof. -/
import Derived.Test.YtffohgbmjjbhiaaGreatB05
import Derived.Test.YtffohgbmjjbhiaaGreatProg
import Derived.IntWalk
set_option linter.all false
namespace Go.Proofs.Z
section
set_option maxRecDepth 100000
set_option maxHeartbeats 400000
noncomputable section
def Tj:=w (an (w (wv Tryz.prog 84)))
def KW:=wf (ml Tj [])
def Px:=(wf λx=>mk Tj false false [x]) KW
def Tk:=w (an (w (wv Tryz.prog 85)))
def KX:=wf (ml Tk [])
def Py:=(wf λx=>mk Tk false false [x]) KX
def TY:=w (an (w (wv Tryz.prog 86)))
def Pz:=wf (mk TY false false [])
def Tl:=w (an (w (wv Tryz.prog 87)))
def KY:=wf (ml Tl [])
def PA:=(wf λx=>mk Tl false false [x]) KY
def TZ:=w (an (w (wv Tryz.prog 88)))
def PB:=wf (mk TZ false false [])
def Tn:=w (an (w (wv Tryz.prog 89)))
def KZ:=wf (ml Tn [])
def PC:=(wf λx=>mk Tn false false [x]) KZ
def T0:=w (an (w (wv Tryz.prog 90)))
def PE:=wf (mk T0 false false [])
def T1:=w (an (w (wv Tryz.prog 91)))
def PF:=wf (mk T1 false false [])
def T2:=w (an (w (wv Tryz.prog 92)))
def PG:=wf (mk T2 false false [])
def T3:=w (an (w (wv Tryz.prog 93)))
def PH:=wf (mk T3 false false [])
def To:=w (an (w (wv Tryz.prog 94)))
def u_:=wf (ml To [])
def M6:=(wf λx=>mk To false false [x]) u_
def Tp:=w (an (w (wv Tryz.prog 95)))
def YJ:=wf (ml Tp [])
def MF:=(wf λx=>mk Tp false false [x]) YJ
def Tq:=w (an (w (wv Tryz.prog 96)))
def X6:=wf (ml Tq [])
def M7:=(wf λx=>mk Tq false true [x]) X6
def Tr:=w (an (w (wv Tryz.prog 97)))
def px:=wf (ml Tr [])
def GX:=(wf λx=>mk Tr true true [x]) px
def Za:=w (an (w (wv Tryz.prog 98)))
def xA:=wf (ml Za [])
def KB:=(wf λx=>mk Za false true [x]) xA
def T4:=w (an (w (wv Tryz.prog 99)))
def M8:=wf (mk T4 false false [])
def Qs:=w (an (w (wv Tryz.prog 100)))
def m_:=wf (ml Qs [])
def z8:=(wf λx=>mk Qs false false [x]) m_
def Ko:=w (an (w (wv Tryz.prog 101)))
def IX:=wf (mk Ko false false [])
def RR:=w (an (w (wv Tryz.prog 102)))
def M9:=wf (mk RR false false [])
def RT:=w (an (w (wv Tryz.prog 103)))
def M_:=wf (mk RT false false [])
def RU:=w (an (w (wv Tryz.prog 104)))
def Na:=wf (mk RU true true [])
def Rj:=w (an (w (wv Tryz.prog 105)))
def IY:=wf (ml Rj [])
def Nb:=(wf λx=>mk Rj false false [x]) IY
def Rk:=w (an (w (wv Tryz.prog 106)))
def IZ:=wf (ml Rk [])
def Nc:=(wf λx=>mk Rk false false [x]) IZ
def RV:=w (an (w (wv Tryz.prog 107)))
def Nd:=wf (mk RV false false [])
def Rl:=w (an (w (wv Tryz.prog 108)))
def I0:=wf (ml Rl [])
def Nf:=(wf λx=>mk Rl false false [x]) I0
def Rm:=w (an (w (wv Tryz.prog 109)))
def I1:=wf (ml Rm [])
def Ng:=(wf λx=>mk Rm false false [x]) I1
def RW:=w (an (w (wv Tryz.prog 110)))
def Nh:=wf (mk RW false false [])
def Rn:=w (an (w (wv Tryz.prog 111)))
def I2:=wf (ml Rn [])
def Ni:=(wf λx=>mk Rn false false [x]) I2
def Q1:=w (an (w (wv Tryz.prog 112)))
def I3:=wf (ml Q1 [])
def I4:=(wf λx=>ml Q1 [x]) I3
def Nj:=(wf λx y=>mk Q1 false false [x,y]) I3 I4
def RX:=w (an (w (wv Tryz.prog 113)))
def Nk:=wf (mk RX false false [])
def Ro:=w (an (w (wv Tryz.prog 114)))
def I5:=wf (ml Ro [])
def Nl:=(wf λx=>mk Ro false false [x]) I5
def Rp:=w (an (w (wv Tryz.prog 115)))
def I6:=wf (ml Rp [])
def Nm:=(wf λx=>mk Rp false false [x]) I6
def RY:=w (an (w (wv Tryz.prog 116)))
def I7:=wf (mk RY false false [])
def RZ:=w (an (w (wv Tryz.prog 117)))
def E2:=wf (mk RZ false false [])
def Qt:=w (an (w (wv Tryz.prog 118)))
def WO:=wf (ml Qt [])
def z_:=(wf λx=>mk Qt false false [x]) WO
def Ks:=w (an (w (wv Tryz.prog 119)))
def WQ:=wf (ml Ks [])
def BJ:=(wf λx=>mk Ks false false [x]) WQ
def R0:=w (an (w (wv Tryz.prog 120)))
def Nn:=wf (mk R0 false true [])
def R1:=w (an (w (wv Tryz.prog 121)))
def No:=wf (mk R1 false false [])
def R2:=w (an (w (wv Tryz.prog 122)))
def Np:=wf (mk R2 false false [])
def Y4:=w (an (w (wv Tryz.prog 123)))
def Nq:=wf (mk Y4 false false [])
end
noncomputable section
def R4:=w (an (w (wv Tryz.prog 124)))
def Nr:=wf (mk R4 false false [])
def Rq:=w (an (w (wv Tryz.prog 125)))
def lY:=wf (ml Rq [])
def I8:=(wf λx=>mk Rq false false [x]) lY
def R5:=w (an (w (wv Tryz.prog 126)))
def BK:=wf (mk R5 false false [])
def R6:=w (an (w (wv Tryz.prog 127)))
def Ns:=wf (mk R6 false false [])
def Q2:=w (an (w (wv Tryz.prog 128)))
def yE:=wf (ml Q2 [])
def X7:=(wf λx=>ml Q2 [x]) yE
def I9:=(wf λx y=>mk Q2 false false [x,y]) yE X7
def R7:=w (an (w (wv Tryz.prog 129)))
def I_:=wf (mk R7 false false [])
def R8:=w (an (w (wv Tryz.prog 130)))
def GY:=wf (mk R8 false false [])
def R9:=w (an (w (wv Tryz.prog 131)))
def Aa:=wf (mk R9 false false [])
def R_:=w (an (w (wv Tryz.prog 132)))
def BL:=wf (mk R_ false false [])
def Rr:=w (an (w (wv Tryz.prog 133)))
def sS:=wf (ml Rr [])
def Ja:=(wf λx=>mk Rr false false [x]) sS
def Sa:=w (an (w (wv Tryz.prog 134)))
def Jb:=wf (mk Sa false false [])
def Sb:=w (an (w (wv Tryz.prog 135)))
def iu:=wf (mk Sb false false [])
def Sc:=w (an (w (wv Tryz.prog 136)))
def wX:=wf (mk Sc false false [])
def Sd:=w (an (w (wv Tryz.prog 137)))
def Jc:=wf (mk Sd false false [])
def Se:=w (an (w (wv Tryz.prog 138)))
def yF:=wf (mk Se false false [])
def Sf:=w (an (w (wv Tryz.prog 139)))
def Ab:=wf (mk Sf false false [])
def Ru:=w (an (w (wv Tryz.prog 140)))
def vc:=wf (ml Ru [])
def Jd:=(wf λx=>mk Ru false false [x]) vc
def Sh:=w (an (w (wv Tryz.prog 141)))
def GZ:=wf (mk Sh false false [])
def Si:=w (an (w (wv Tryz.prog 142)))
def yG:=wf (mk Si false false [])
def Rv:=w (an (w (wv Tryz.prog 143)))
def vd:=wf (ml Rv [])
def Ac:=(wf λx=>mk Rv false false [x]) vd
def Sj:=w (an (w (wv Tryz.prog 144)))
def lZ:=wf (mk Sj false false [])
def Rw:=w (an (w (wv Tryz.prog 145)))
def X8:=wf (ml Rw [])
def yH:=(wf λx=>mk Rw false false [x]) X8
def Sl:=w (an (w (wv Tryz.prog 146)))
def YT:=wf (mk Sl false false [])
def Rx:=w (an (w (wv Tryz.prog 147)))
def vf:=wf (ml Rx [])
def Je:=(wf λx=>mk Rx false false [x]) vf
def Ry:=w (an (w (wv Tryz.prog 148)))
def qW:=wf (ml Ry [])
def YU:=(wf λx=>mk Ry false false [x]) qW
def Sm:=w (an (w (wv Tryz.prog 149)))
def YV:=wf (mk Sm false false [])
def Sn:=w (an (w (wv Tryz.prog 150)))
def G4:=wf (mk Sn false false [])
def So:=w (an (w (wv Tryz.prog 151)))
def Jf:=wf (mk So false false [])
def Sp:=w (an (w (wv Tryz.prog 152)))
def sT:=wf (mk Sp false false [])
def Sq:=w (an (w (wv Tryz.prog 153)))
def E3:=wf (mk Sq false false [])
def Sr:=w (an (w (wv Tryz.prog 154)))
def G5:=wf (mk Sr false false [])
def Ss:=w (an (w (wv Tryz.prog 155)))
def E4:=wf (mk Ss false false [])
def Su:=w (an (w (wv Tryz.prog 156)))
def Jg:=wf (mk Su false false [])
def Sv:=w (an (w (wv Tryz.prog 157)))
def G6:=wf (mk Sv false false [])
def Sw:=w (an (w (wv Tryz.prog 158)))
def yI:=wf (mk Sw false false [])
def Sx:=w (an (w (wv Tryz.prog 159)))
def Ad:=wf (mk Sx false false [])
def Sy:=w (an (w (wv Tryz.prog 160)))
def Jh:=wf (mk Sy false false [])
def Sz:=w (an (w (wv Tryz.prog 161)))
def nc:=wf (mk Sz false false [])
def Rz:=w (an (w (wv Tryz.prog 162)))
def yJ:=wf (ml Rz [])
def G7:=(wf λx=>mk Rz false false [x]) yJ
def Q3:=w (an (w (wv Tryz.prog 163)))
def qX:=wf (ml Q3 [])
def vg:=(wf λx=>ml Q3 [x]) qX
def yK:=(wf λx y=>mk Q3 false false [x,y]) qX vg
end
noncomputable section
def SC:=w (an (w (wv Tryz.prog 164)))
def Ji:=wf (mk SC false false [])
def SD:=w (an (w (wv Tryz.prog 165)))
def Jj:=wf (mk SD false false [])
def SE:=w (an (w (wv Tryz.prog 166)))
def G8:=wf (mk SE false false [])
def SF:=w (an (w (wv Tryz.prog 167)))
def yL:=wf (mk SF false false [])
def QK:=w (an (w (wv Tryz.prog 168)))
def yM:=wf (ml QK [])
def yN:=(wf λx=>ml QK [x]) yM
def yO:=(wf λx y=>ml QK [x,y]) yM yN
def Jk:=(wf λx y z=>mk QK false false [x,y,z]) yM yN yO
def SG:=w (an (w (wv Tryz.prog 169)))
def DP:=wf (mk SG false true [])
def RA:=w (an (w (wv Tryz.prog 170)))
def py:=wf (ml RA [])
def E5:=(wf λx=>mk RA false true [x]) py
def Q4:=w (an (w (wv Tryz.prog 171)))
def vh:=wf (ml Q4 [])
def yP:=(wf λx=>ml Q4 [x]) vh
def Jl:=(wf λx y=>mk Q4 false true [x,y]) vh yP
def SH:=w (an (w (wv Tryz.prog 172)))
def Jm:=wf (mk SH false true [])
def SI:=w (an (w (wv Tryz.prog 173)))
def Jn:=wf (mk SI false false [])
def SJ:=w (an (w (wv Tryz.prog 174)))
def G9:=wf (mk SJ false false [])
def RB:=w (an (w (wv Tryz.prog 175)))
def X9:=wf (ml RB [])
def G_:=(wf λx=>mk RB false false [x]) X9
def SK:=w (an (w (wv Tryz.prog 176)))
def E6:=wf (mk SK false false [])
def Y5:=w (an (w (wv Tryz.prog 177)))
def wY:=wf (mk Y5 false false [])
def SM:=w (an (w (wv Tryz.prog 178)))
def Jo:=wf (mk SM false false [])
def SN:=w (an (w (wv Tryz.prog 179)))
def E7:=wf (mk SN false false [])
def RC:=w (an (w (wv Tryz.prog 180)))
def qY:=wf (ml RC [])
def E8:=(wf λx=>mk RC false false [x]) qY
def SO:=w (an (w (wv Tryz.prog 181)))
def Jp:=wf (mk SO false false [])
def SP:=w (an (w (wv Tryz.prog 182)))
def Jq:=wf (mk SP false false [])
def SQ:=w (an (w (wv Tryz.prog 183)))
def Ha:=wf (mk SQ false false [])
def SR:=w (an (w (wv Tryz.prog 184)))
def Hb:=wf (mk SR false false [])
def RD:=w (an (w (wv Tryz.prog 185)))
def yQ:=wf (ml RD [])
def Jr:=(wf λx=>mk RD false false [x]) yQ
def SU:=w (an (w (wv Tryz.prog 186)))
def DQ:=wf (mk SU false true [])
def RE:=w (an (w (wv Tryz.prog 187)))
def X_:=wf (ml RE [])
def DR:=(wf λx=>mk RE false false [x]) X_
def SV:=w (an (w (wv Tryz.prog 188)))
def E9:=wf (mk SV false false [])
def Y6:=w (an (w (wv Tryz.prog 189)))
def Js:=wf (mk Y6 false false [])
def SX:=w (an (w (wv Tryz.prog 190)))
def Hc:=wf (mk SX false false [])
def SY:=w (an (w (wv Tryz.prog 191)))
def Jt:=wf (mk SY false false [])
def SZ:=w (an (w (wv Tryz.prog 192)))
def DS:=wf (mk SZ false false [])
def RF:=w (an (w (wv Tryz.prog 194)))
def Ya:=wf (ml RF [])
def Hd:=(wf λx=>mk RF true false [x]) Ya
def Y7:=w (an (w (wv Tryz.prog 195)))
def He:=wf (mk Y7 false false [])
end
end
noncomputable def EY:List (Nat×bz):=[(3,c3),(5,c5),(6,c6),(8,c8),(9,c9),(10,H5),(12,Ms),(13,H6),(14,MQ),(15,MR),(16,Mt),(17,MS),(18,MT),(19,Uk),(20,Mv),(21,GI),(22,Mw),(23,z0),(24,GW),(25,Pj),(26,Pk),(27,MU),(28,EZ),(29,Mx),(30,Kv),(32,CK),(33,MV),(34,Kw),(35,H7),(36,Uh),(37,Bm),(38,My),(39,Mz),(40,MA),(41,Kx),(42,YQ),(43,Pl),(44,Pm),(45,Pn),(46,MB),(47,MW),(48,MX),(49,Uf),(50,Ky),(51,YD),(52,GJ),(53,Kz),(54,MY),(55,yD),(56,MZ),(57,KA),(58,Ej),(59,M0),(60,H8),(61,Po),(62,Pp),(63,Pq),(64,Pr),(65,Ps),(66,M1),(67,IU),(68,YP),(69,MC),(70,M3),(71,KV),(72,H9),(73,CN),(74,MD),(75,IV),(76,ME),(77,IW),(78,M4),(79,M5),(80,DO),(81,Pu),(82,Pv),(83,Pw),(84,Px),(85,Py),(86,Pz),(87,PA),(88,PB),(89,PC),(90,PE),(91,PF),(92,PG),(93,PH),(94,M6),(95,MF),(96,M7),(97,GX),(98,KB),(99,M8),(100,z8),(101,IX),(102,M9),(103,M_),(104,Na),(105,Nb),(106,Nc),(107,Nd),(108,Nf),(109,Ng),(110,Nh),(111,Ni),(112,Nj),(113,Nk),(114,Nl),(115,Nm),(116,I7),(117,E2),(118,z_),(119,BJ),(120,Nn),(121,No),(122,Np),(123,Nq),(124,Nr),(125,I8),(126,BK),(127,Ns),(128,I9),(129,I_),(130,GY),(131,Aa),(132,BL),(133,Ja),(134,Jb),(135,iu),(136,wX),(137,Jc),(138,yF),(139,Ab),(140,Jd),(141,GZ),(142,yG),(143,Ac),(144,lZ),(145,yH),(146,YT),(147,Je),(148,YU),(149,YV),(150,G4),(151,Jf),(152,sT),(153,E3),(154,G5),(155,E4),(156,Jg),(157,G6),(158,yI),(159,Ad),(160,Jh),(161,nc),(162,G7),(163,yK),(164,Ji),(165,Jj),(166,G8),(167,yL),(168,Jk),(169,DP),(170,E5),(171,Jl),(172,Jm),(173,Jn),(174,G9),(175,G_),(176,E6),(177,wY),(178,Jo),(179,E7),(180,E8),(181,Jp),(182,Jq),(183,Ha),(184,Hb),(185,Jr),(186,DQ),(187,DR),(188,E9),(189,Js),(190,Hc),(191,Jt),(192,DS),(194,Hd),(195,He)]
set_option maxRecDepth 20000 in
theorem CO:CG Tryz.prog EY:=by(repeat refine⟨fk,?_⟩);exact True.intro
structure aq where
 aD:Nat
 aT:Nat
 deriving DecidableEq,Inhabited
structure Up where
 ao:Nat
 Us:Nat
 n:Int
 name:List UInt8
 aY:List (List UInt8×Nat)
 to:List aq
 deriving DecidableEq,Inhabited
structure aI where
 ae:List Up
 aV:Nat
 deriving DecidableEq,Inhabited
def Up.zero:Up:=⟨0,0,0,[],[],[]⟩
def eL (k:Nat):Nat:=[0,1,3,3,3,2,2,1,0,0,1,3,2,1].getD k 0
theorem nf {k:Nat}(h:¬ k<14):eL k=0:=by
 unfold eL;rw[List.getD_eq_getElem?_getD,List.getElem?_eq_none (by simp;omega)];rfl
def Up.bO (x:Up):Nat:=if x.ao=8 then x.to.length else if x.ao=9 then 2+x.aY.length else eL x.ao
def eM (all:List (List UInt8×Nat))(i:Nat):List (List UInt8×Nat)->Bool
 |[]=>true
 |a::r=>!decide (a.1=[]) && decide (a.2<=8) && !((all.take i).any λb=>decide (b.1=a.1)) && eM all (i+1) r
def Up.fP (x:Up):Bool:=if x.ao=9 then eM x.aY 0 x.aY && decide (1<=x.aY.length/\x.aY.length<=8) else decide (x.aY.length=0)
def Up.ok (x:Up):Bool :=
 decide (x.ao<=13) && x.fP && decide (x.Us<=if x.ao<=1 then 0 else 60) && ((!decide (x.name=[])) == decide (x.ao=8\/x.ao=11\/x.ao=12)) &&
 (decide (x.n=0) || decide (x.ao=10\/x.ao=12)) && (!decide (x.ao=8) || decide (1<=x.to.length/\x.to.length<=9))
end Go.Proofs.Z
namespace Go.Proofs.Z
def aI.peer (n:aI)(p:aq):Option aq:=match n.ae[p.aD]? with
 |some x=>x.to[p.aT]?
 |none=>none
structure aI.Ok (n:aI):Prop where
 aV:1<=n.aV/\n.aV<=4000
 len:1<=n.ae.length/\n.ae.length<=n.aV
 last:∀x,n.ae[n.ae.length-1]?=some x->x.ao≠0
 aD:∀i x,n.ae[i]?=some x->x.ok=true/\x.to.length=x.bO/\(x.ao=1↔i=0)
 link:∀i x k q,n.ae[i]?=some x->x.to[k]?=some q->q≠⟨i,k⟩/\n.peer q=some ⟨i,k⟩
theorem Up.gS {x:Up}(h:x.ok=true):x.aY.length<=8:=by
 simp only[Up.ok,ab]at h;have:=h.1.1.1.1.2;unfold Up.fP at this;split at this
 ·simp only[ab,Uq]at this;omega
 ·simp only[Uq]at this;omega
theorem rX (k:Nat):eL k<=3:=by
 by_cases h:k<14
 ·have:∀j:Fin 14,eL j<=3:=by decide
  exact this ⟨k,h⟩
 ·rw[nf h];omega
theorem Up.gT {x:Up}(h:x.ok=true)(hl:x.to.length=x.bO):x.to.length<=10:=by
 have h1:=Up.gS h;have h2:=rX x.ao;simp only[Up.ok,ab,UP,a_,Uq,decide_eq_false_iff_not]at h;have h3:=h.2;unfold Up.bO at hl;by_cases h8:x.ao=8
 ·rcases h3 with h3|h3
  ·exact absurd h8 h3
  ·omega
 ·rw[aa h8]at hl;split at hl<;>omega
end Go.Proofs.Z
namespace Go.Proofs.Z
def Up.oZ (x:Up)(k:Nat)(q:aq):Up:={ x with to:=x.to.set k q }
def aI.put (n:aI)(p q:aq):aI:=match n.ae[p.aD]? with
 |some x=>{ n with ae:=n.ae.set p.aD (x.oZ p.aT q) }
 |none=>n
def aI.link (n:aI)(p q:aq):aI:=(n.put p q).put q p
def aI.pr (n:aI)(p:aq):aq:=(n.peer p).getD ⟨0,0⟩
def aI.has (n:aI)(p:aq):Prop:=∃x,n.ae[p.aD]?=some x/\p.aT<x.to.length
def aI.move (n:aI)(p q:aq):aI:=if n.pr p=q then n else n.link q (n.pr p)
def aI.join (n:aI)(p q:aq):aI:=if n.pr p=q then n else n.link (n.pr p) (n.pr q)
theorem aI.qZ {n:aI}{p:aq}(h:n.has p):∃x,n.ae[p.aD]?=some x/\x.to[p.aT]?=some (n.pr p):=by
 obtain⟨x,h1,h2⟩:=h;refine⟨x,h1,?_⟩;unfold aI.pr aI.peer;rw[h1];simp[gG h2]
theorem aI.xB {n:aI}{p q:aq}{x:Up}(h:n.ae[p.aD]?=some x):(n.put p q).ae=n.ae.set p.aD (x.oZ p.aT q):=by
 unfold aI.put;rw[h]
theorem aI.sU {n:aI}{p q:aq}{i:Nat}:(n.put p q).ae[i]?=if i=p.aD then (n.ae[i]?).map (λx=>x.oZ p.aT q) else n.ae[i]?:=by
 unfold aI.put;cases h:n.ae[p.aD]? with
 |none =>
  dsimp only;split
  ·rename_i e;subst e;rw[h];rfl
  ·rfl
 |some x =>
  dsimp only;obtain⟨h1,h2⟩:=gE h;rw[List.getElem?_set];by_cases e:p.aD=i
  ·subst e;simp[h1,h2]
  ·rw[aa e,aa (λe'=>e e'.symm)]
theorem aI.rY {n:aI}{p q r:aq}:(n.put p q).has r↔n.has r:=by
 unfold aI.has;rw[aI.sU];split
 ·constructor
  ·rintro⟨x,h1,h2⟩;rw[aP]at h1;obtain⟨y,h1,rfl⟩:=h1;exact⟨y,h1,by simpa [Up.oZ] using h2⟩
  ·rintro⟨x,h1,h2⟩;rw[h1];exact⟨_,rfl,by simpa [Up.oZ] using h2⟩
 ·exact Iff.rfl
theorem aI.rZ {n:aI}{p q:aq}:(n.put p q).ae.length=n.ae.length:=by
 unfold aI.put;split<;>simp
theorem aI.j6 {n:aI}{p q:aq}:(n.put p q).aV=n.aV:=by
 unfold aI.put;split<;>rfl
def aI.XB (n:aI):Prop:=n.ae.length<2 ^ 20/\∀(i:Nat) (x:Up),n.ae[i]?=some x->x.to.length<2 ^ 20
def aI.W3 (n:aI)(p:aq):Prop:=n.has p/\n.XB
theorem aI.XB.put {n:aI}(h:n.XB)(p q:aq):(n.put p q).XB:=by
 refine⟨by rw[aI.rZ];exact h.1,λi x hx=>?_⟩;rw[aI.sU]at hx;split at hx
 ·obtain⟨y,hy,rfl⟩:=aP.1 hx;simpa [Up.oZ] using h.2 i y hy
 ·exact h.2 i x hx
section
abbrev iv (n:Int):PV:=.i .i64 n
def aq.aw (p:aq):List PV:=[iv p.aD,iv p.aT]
def Ux (a:List UInt8×Nat):List PV:=[.s a.1,iv a.2]
def Up.aw (x:Up):List PV:=[iv x.ao,iv x.Us,iv x.n,.s x.name,.sl (x.aY.map Ux),.sl (x.to.map aq.aw)]
def aI.pv (n:aI):PV:=.sl (n.ae.map Up.aw)
def aI.cells (n:aI):List AV:=[.p n.pv,.p (iv n.aV)]
def aI.aw (n:aI):AV:=.ag n.cells
def sV:List AV->Option (Out×Heap)
 |[.p (.sl ay)]=>if (bH 2 ay && bZ ay.length 24)=true then some (.ret (.p (.sl ay)),[]) else none
 |_=>none
def pz (sz bytes:Nat):List AV->Option (Out×Heap)
 |[.p (.sl [])]=>some (.ret (.p (.sl [])),[])
 |[.p (.sl ay)]=>if (bH sz ay && bZ ay.length bytes)=true then some (.ret (.arr 0 ay.length 1),[.arr sz ay 1 0]) else none
 |_=>none
noncomputable def yR (f:Nat):Option bz:=(EY.find? (λp=>Nat.beq p.1 f)).map (·.2)
structure bY (pg:fX):Prop where
 code:pg.code=yR
 Xa:∀f,f≠193->f≠196->f≠197->f≠11->pg.Xa f=none
 BM:pg.Xa 193=some sV
 Hf:pg.Xa 196=some (pz 2 16)
 Hg:pg.Xa 197=some (pz 6 88)
 quiet:pg.quiet 193=true
variable {pg:fX}
theorem bY.run (h:bY pg){f:Nat}{x:bz}{a:List AV}{G:Heap}(hc:yR f=some x:=by rfl)(h1:f≠193:=by decide)(h2:f≠196:=by decide)(h3:f≠197:=by decide)(h4:f≠11:=by decide) :
  E pg f a G=ic pg (E pg) (L pg) x a G:=IT (h.Xa f h1 h2 h3 h4) (by rw[h.code];exact hc) a G
theorem bY.bq (h:bY pg){f:Nat}{x:bz}(hc:yR f=some x):bC pg f=x.zm:=by
 unfold bC;rw[h.code,hc]
noncomputable def tL:fX:=X2 EY [(193,sV),(196,pz 2 16),(197,pz 6 88)] [193]
theorem eA:bY tL:=by
 refine⟨rfl,λf h1 h2 h3 h4=>?_,rfl,rfl,rfl,rfl⟩;simp only[tL,X2,WA,List.find?_eq_none];intro p hp;simp only[aA,UA,dU]at hp;rcases hp with rfl|rfl|rfl<;>simp<;>omega
theorem bY.OK (h:bY pg):∀n f,kh pg n f=kh tL n f
 |0,_=>rfl
 |n+1,f=>by
  have hf:kh pg n=kh tL n:=funext (h.OK n);unfold kh;rw[hf,h.code,eA.code];by_cases h1:f=193
  ·subst h1;rw[h.BM,eA.BM]
  ·by_cases h2:f=196
   ·subst h2;rw[h.Hf,eA.Hf]
   ·by_cases h3:f=197
    ·subst h3;rw[h.Hg,eA.Hg]
    ·by_cases h4:f=11
     ·subst h4;have:yR 11=none:=by rfl
      rw[this];cases pg.Xa 11<;>cases tL.Xa 11<;>rfl
     ·rw[h.Xa f h1 h2 h3 h4,eA.Xa f h1 h2 h3 h4]
theorem bY.ro (h:bY pg)(f:Nat):qe pg f=qe tL f:=h.OK 3 f
theorem DT {call:di}{f:Nat}{args args':List AV}{out:Out}{G:Heap}(ha:∀e,aQ (bC pg f) e args=some (args',e))(hc:call f args' []=some (out,[]))(ho:out.bf 0=true) :
  UM pg call f args G=some (out,G):=by
 unfold UM;rw[ha];dsimp only;have:UG (G.length+1) ⟨[],G⟩ 0=some ([],⟨[],G⟩):=by simp[UG]
 rw[this];dsimp only;rw[hc];have hback:∀n,out.back [] n=out:=λn=>by
  cases out with
  |ret v=>simp only[Out.back];rw[iZ n (by simpa [Out.bf] using ho)]
  |iL v=>simp only[Out.back];rw[iZ n (by simpa [Out.bf] using ho)]
 simp[hback,b_]
mutual
def cE:AV->Bool
 |.p _=>true
 |.undef=>true
 |.ag cs=>bm cs
 |_=>false
def bm:List AV->Bool
 |[]=>true
 |a::r=>cE a && bm r
end
mutual
theorem fM (bq:Bool)(e:fI):∀{a:AV},cE a=true->exp bq e a=some (a,e)
 |.p x,_=>by simp[exp]
 |.undef,_=>by simp[exp]
 |.ag cs,h=>by simp only[exp];rw[bS bq e (l:=cs) (by simpa [cE] using h)]
 |.aC,h=>by simp[cE]at h
 |.rp _,h=>by simp[cE]at h
 |.arr _ _ _,h=>by simp[cE]at h
 |.ptr _ _,h=>by simp[cE]at h
 |.ez _ _ _ _,h=>by simp[cE]at h
 |.dF cs,h=>by simp[cE]at h
 |.eT t v,h=>by simp[cE]at h
 |.fn f a b,h=>by simp[cE]at h
theorem bS (bq:Bool)(e:fI):∀{l:List AV},bm l=true->aQ bq e l=some (l,e)
 |[],_=>by simp[aQ]
 |a::r,h=>by
  simp only[bm,ab]at h;simp only[aQ];rw[fM bq e h.1];dsimp only;rw[bS bq e h.2]
end
theorem eZ:∀l:List PV,bm (bP l)=true
 |[]=>rfl
 |a::r=>by simpa [bP,bm,cE] using eZ r
theorem Ut {call:di}{f:Nat}{args:List AV}{out:Out}{G:Heap}(hc:call f args []=some (out,[]))(ha:bm args=true)(ho:out.bf 0=true) :
  UM pg call f args G=some (out,G):=DT (λe=>bS _ e ha) hc ho
theorem cR (n:Int)(h1:-9223372036854775808<=n:=by omega)(h2:n<=9223372036854775807:=by omega):IntKind.i64.wrap n=n:=by rw[IntKind.wrap_i64];omega
end
theorem XC:∀(n s id:Nat),s<=id->id<s+n->eP (List.range' s n) id=some (id-s)
 |0,s,id,h1,h2=>by omega
 |n+1,s,id,h1,h2=>by
  rw[cq];unfold eP;by_cases h:s=id
  ·subst h;simp
  ·rw[aa h,XC n (s+1) id (by omega) (by omega)];simp;omega
def KC (aK:Nat)(e:fI):Prop:=∀id,id<aK->eP e.ids id=some id
theorem xC (aK:Nat)(G:Heap):KC aK ⟨List.range aK,G⟩:=λid h=>by
 rw[dO];have:=XC aK 0 id (by omega) (by omega);simpa using this
theorem KC.id {aK:Nat}{e:fI}(h:KC aK e){id:Nat}(hid:id<aK):e.id id=(id,e):=by
 unfold fI.id;rw[h id hid]
mutual
theorem vm {aK:Nat}{e:fI}(h:KC aK e):∀{a:AV},bf aK a=true->exp true e a=some (a,e)
 |.p x,_=>by simp[exp]
 |.aC,_=>by simp[exp]
 |.undef,_=>by simp[exp]
 |.rp _,_=>by simp[exp]
 |.arr id _ _,hb=>by simp only[bf]at hb;simp[exp,h.id (bJ.mp hb)]
 |.ptr id _,hb=>by simp only[bf]at hb;simp[exp,h.id (bJ.mp hb)]
 |.ez id _ _ _,hb=>by simp only[bf]at hb;simp[exp,h.id (bJ.mp hb)]
 |.ag cs,hb=>by simp only[exp];rw[Wd h (l:=cs) (by simpa [bf] using hb)]
 |.dF cs,hb=>by simp only[exp];rw[Wd h (l:=cs) (by simpa [bf] using hb)]
 |.eT t v,hb=>by simp only[exp];rw[vm h (a:=v) (by simpa [bf] using hb)]
 |.fn f a b,hb=>by
  simp only[bf,ab]at hb;simp only[exp];rw[Wd h hb.1];dsimp only;rw[Wd h hb.2]
theorem Wd {aK:Nat}{e:fI}(h:KC aK e):∀{l:List AV},cH aK l=true->aQ true e l=some (l,e)
 |[],_=>by simp[aQ]
 |a::r,hb=>by
  simp only[cH,ab]at hb;simp only[aQ];rw[vm h hb.1];dsimp only;rw[Wd h hb.2]
end
theorem XD {aK:Nat}{G:Heap}(hG:G.length=aK)(ho:G.all (ym aK)=true):∀(fuel k:Nat),aK<fuel+k->k<=aK->UG fuel ⟨List.range aK,G⟩ k=some (G.drop k,⟨List.range aK,G⟩)
 |0,k,h1,h2=>by omega
 |fuel+1,k,h1,h2=>by
  unfold UG;by_cases hk:k=aK
  ·subst hk;rw[List.getElem?_eq_none (by simp)];rw[cV (by omega)]
  ·have hlt:k<aK:=by omega
   have e1:(⟨List.range aK,G⟩:fI).ids[k]?=some k:=by simp[hlt]
   rw[e1];dsimp only;have hkG:k<G.length:=by omega
   rw[gG hkG];have hd:G.drop k=G[k]::G.drop (k+1):=aM hkG;have hb:ym aK G[k]=true:=bc.mp ho _ (bM hkG);have ih:=XD hG ho fuel (k+1) (by omega) (by omega);cases hc:G[k] with
   |arr sz ay g sl =>
    dsimp only;rw[ih];rw[hd,hc]
   |box cs =>
    rw[hc]at hb;dsimp only;rw[Wd (xC aK G) (by simpa [ym] using hb)];dsimp only;rw[ih];rw[hd,hc]
theorem vo {aK:Nat}{e:fI}(h:KC aK e):∀{aN:Env},(∀p,p∈aN->bf aK p.2=true)->o9 e aN=some (aN,e)
 |[],_=>rfl
 |(k,a)::r,hb=>by
  unfold o9;rw[vm h (hb (k,a) (by simp))];dsimp only;rw[vo h λp hp=>hb p (by simp[hp])]
theorem um {aK:Nat}{live:List Nat}{aN:Env}{G:Heap}(hG:G.length=aK)(ho:G.all (ym aK)=true)(he:∀p,p∈U9 live aN->bf aK p.2=true):gc aK live aN G=some (U9 live aN,G):=by
 unfold gc;rw[vo (xC aK G) he];dsimp only;rw[XD hG ho _ 0 (by omega) (by omega)];simp
theorem vp {aK:Nat}{o:Out}{G:Heap}(hG:G.length=aK)(ho:G.all (ym aK)=true)(hb:o.bf aK=true):aj aK o G=some (o,G):=by
 unfold aj;have:G.take aK=G:=by rw[<- hG];simp
 rw[this,hb,ho];rfl
theorem K0 {pg:fX}{b:Nat}{v:List Nat}{body c:aU}(hb:body=c){aN:Env}{G:Heap} :
  L pg b v body aN G=match bo pg (E pg) (L pg) b c aN G with
   |some (.normal,aN,G)=>match gc b v aN G with
    |some (aN,G)=>L pg b v body aN G
    |none=>none
   |r=>r:=by subst hb;exact MO b v body aN G
section
variable {pg:fX}{call:di}{loop:js}{aK:Nat}
abbrev Rs:=Option (Ex×Env×Heap)
def kO (pg:fX)(call:di)(d:Option Nat)(r:List CI)(x:Option jV)(aN:Env):Rs:=match x with
 |none=>none
 |some (.val v G)=>dP pg call r (put aN d v) G
 |some (.iL v G)=>some (.iL v,aN,G)
def kG (pg:fX)(call:di)(d:Option Nat)(o:qd)(r:List CI)(g:Option Bool)(aN:Env)(G:Heap):Rs:=match g with
 |none=>none
 |some false=>dP pg call r (put aN d .undef) G
 |some true=>kO pg call d r (Uu pg call o aN G) aN
theorem Ae {aN:Env}{G:Heap}:dP pg call [] aN G=some (.normal,aN,G):=by simp[dP]
theorem Af {d:Option Nat}{o:qd}{r:List CI}{aN:Env}{G:Heap}:dP pg call (⟨d,o,none⟩::r) aN G=kO pg call d r (Uu pg call o aN G) aN:=by
 rw[dP];simp only[tu,kO];rcases Uu pg call o aN G with _|⟨_|_⟩<;>rfl
theorem vq {d:Option Nat}{o:qd}{g:Nat×Bool}{r:List CI}{aN:Env}{G:Heap}:dP pg call (⟨d,o,some g⟩::r) aN G=kG pg call d o r (tu aN (some g)) aN G:=by
 rw[dP];simp only[kG];rcases tu aN (some g) with _|⟨_|_⟩
 ·rfl
 ·rfl
 ·simp only[kO];rcases Uu pg call o aN G with _|⟨_|_⟩<;>rfl
theorem XE {d:Option Nat}{o:qd}{r:List CI}{aN:Env}{G:Heap}:kG pg call d o r (some true) aN G=kO pg call d r (Uu pg call o aN G) aN:=rfl
theorem pA {d:Option Nat}{o:qd}{r:List CI}{aN:Env}{G:Heap}:kG pg call d o r (some false) aN G=dP pg call r (put aN d .undef) G:=rfl
theorem vr {d:Option Nat}{r:List CI}{v:AV}{aN:Env}{G:Heap}:kO pg call d r (some (.val v G)) aN=dP pg call r (put aN d v) G:=rfl
theorem Yb {d:Option Nat}{r:List CI}{v:AV}{aN:Env}{G:Heap}:kO pg call d r (some (.iL v G)) aN=some (.iL v,aN,G):=rfl
def kS (pg:fX)(call:di)(loop:js)(aK:Nat)(b:aU)(x:Rs):Rs:=match x with
 |some (.normal,aN,G)=>bo pg call loop aK b aN G
 |r=>r
theorem Ag {a b:aU}{aN:Env}{G:Heap}:bo pg call loop aK (.seq a b) aN G=kS pg call loop aK b (bo pg call loop aK a aN G):=by
 rw[bo];rfl
theorem E_ {b:aU}{aN:Env}{G:Heap}:kS pg call loop aK b (some (.normal,aN,G))=bo pg call loop aK b aN G:=rfl
theorem Fa {b:aU}{aN:Env}{G:Heap}:kS pg call loop aK b (some (.ret,aN,G))=some (.ret,aN,G):=rfl
theorem Fb {b:aU}{id:Nat}{aN:Env}{G:Heap}:kS pg call loop aK b (some (.exit id,aN,G))=some (.exit id,aN,G):=rfl
theorem Fc {b:aU}{v:AV}{aN:Env}{G:Heap}:kS pg call loop aK b (some (.iL v,aN,G))=some (.iL v,aN,G):=rfl
def kR (live:List Nat)(x:Rs):Rs:=match x with
 |some (.normal,aN,G)=>some (.normal,U9 live aN,G)
 |r=>r
theorem K2 {live:List Nat}{l:List CI}{aN:Env}{G:Heap}:bo pg call loop aK (.ops live l) aN G=kR live (dP pg call l aN G):=by
 rw[bo];rfl
theorem Fe {live:List Nat}{aN:Env}{G:Heap}:kR live (some (.normal,aN,G))=some (.normal,U9 live aN,G):=rfl
theorem Ff {live:List Nat}{v:AV}{aN:Env}{G:Heap}:kR live (some (.iL v,aN,G))=some (.iL v,aN,G):=rfl
def KD (pg:fX)(live:List Nat)(chk:List qK)(n:Nat)(x:Rs):Rs:=match x with
 |some (.normal,UO,G')=>if chk.all (VS pg UO n)=true then some (.normal,U9 live UO,G') else none
 |_=>none
def OL (pg:fX)(call:di)(live:List Nat)(rest:List CI)(chk:List qK)(x:Rs):Rs:=match x with
 |some (.normal,aN,G)=>KD pg live chk G.length (dP pg call rest aN G)
 |_=>none
theorem K3 {live:List Nat}{news rest:List CI}{chk:List qK}{aN:Env}{G:Heap}:bo pg call loop aK (.draw live news rest chk) aN G=OL pg call live rest chk (dP pg call news aN G):=by
 rw[bo];rfl
theorem Ah {live:List Nat}{rest:List CI}{chk:List qK}{aN:Env}{G:Heap}:OL pg call live rest chk (some (.normal,aN,G))=KD pg live chk G.length (dP pg call rest aN G):=rfl
theorem Ai {live:List Nat}{chk:List qK}{n:Nat}{aN:Env}{G:Heap}:KD pg live chk n (some (.normal,aN,G))=if chk.all (VS pg aN n)=true then some (.normal,U9 live aN,G) else none:=rfl
def kC (pg:fX)(call:di)(loop:js)(aK:Nat)(a b:aU)(aN:Env)(G:Heap)(x:Option AV):Rs:=match x with
 |some (.p (.b x))=>if x then bo pg call loop aK a aN G else bo pg call loop aK b aN G
 |_=>none
theorem K4 {c:fe}{a b:aU}{aN:Env}{G:Heap}:bo pg call loop aK (.cond c a b) aN G=kC pg call loop aK a b aN G (eH aN c):=by
 rw[bo];rfl
theorem Fg {a b:aU}{aN:Env}{G:Heap}:kC pg call loop aK a b aN G (some (.p (.b true)))=bo pg call loop aK a aN G:=rfl
theorem Fh {a b:aU}{aN:Env}{G:Heap}:kC pg call loop aK a b aN G (some (.p (.b false)))=bo pg call loop aK b aN G:=rfl
def kB (id:Nat)(x:Rs):Rs:=match x with
 |some (.exit id',aN,G)=>if id'=id then some (.normal,aN,G) else some (.exit id',aN,G)
 |r=>r
theorem K5 {id:Nat}{a:aU}{aN:Env}{G:Heap}:bo pg call loop aK (.block id a) aN G=kB id (bo pg call loop aK a aN G):=by
 rw[bo];rfl
theorem Fi {id:Nat}{aN:Env}{G:Heap}:kB id (some (.normal,aN,G))=some (.normal,aN,G):=rfl
theorem Fj {id:Nat}{aN:Env}{G:Heap}:kB id (some (.ret,aN,G))=some (.ret,aN,G):=rfl
theorem Fk {id:Nat}{v:AV}{aN:Env}{G:Heap}:kB id (some (.iL v,aN,G))=some (.iL v,aN,G):=rfl
theorem Fl {id id':Nat}{aN:Env}{G:Heap}:kB id (some (.exit id',aN,G))=if id'=id then some (.normal,aN,G) else some (.exit id',aN,G):=rfl
theorem vu {aN:Env}{G:Heap}:bo pg call loop aK .skip aN G=some (.normal,aN,G):=by rw[bo]
theorem Aj {aN:Env}{G:Heap}:bo pg call loop aK .ret aN G=some (.ret,aN,G):=by rw[bo]
theorem Yc {id:Nat}{aN:Env}{G:Heap}:bo pg call loop aK (.exit id) aN G=some (.exit id,aN,G):=by rw[bo]
def kL (loop:js)(aK:Nat)(live:List Nat)(a:aU)(x:Option (Env×Heap)):Rs:=match x with
 |some (aN,G)=>loop aK live a aN G
 |none=>none
theorem K6 {live:List Nat}{a:aU}{aN:Env}{G:Heap}:bo pg call loop aK (.loop live a) aN G=kL loop aK live a (gc aK live aN G):=by
 rw[bo];rfl
theorem Fm {live:List Nat}{a:aU}{aN:Env}{G:Heap}:kL loop aK live a (some (aN,G))=loop aK live a aN G:=rfl
noncomputable def xD (pg:fX)(aK:Nat)(live:List Nat)(body:aU)(x:Rs):Rs:=match x with
 |some (.normal,aN,G)=>kL (L pg) aK live body (gc aK live aN G)
 |r=>r
theorem dA {live:List Nat}{body c:aU}(hb:body=c){aN:Env}{G:Heap}:L pg aK live body aN G=xD pg aK live body (bo pg (E pg) (L pg) aK c aN G):=by
 rw[K0 hb];rfl
theorem Ak {live:List Nat}{body:aU}{aN:Env}{G:Heap}:xD pg aK live body (some (.normal,aN,G))=kL (L pg) aK live body (gc aK live aN G):=rfl
theorem Am {live:List Nat}{body:aU}{aN:Env}{G:Heap}:xD pg aK live body (some (.ret,aN,G))=some (.ret,aN,G):=rfl
theorem An {live:List Nat}{body:aU}{id:Nat}{aN:Env}{G:Heap}:xD pg aK live body (some (.exit id,aN,G))=some (.exit id,aN,G):=rfl
theorem Ao {live:List Nat}{body:aU}{v:AV}{aN:Env}{G:Heap}:xD pg aK live body (some (.iL v,aN,G))=some (.iL v,aN,G):=rfl
def kN (n:Nat)(x:Option (AV×Heap)):Option (Out×Heap):=match x with
 |some (v,G)=>aj n (.ret v) G
 |none=>none
def kV (n:Nat)(bq:Bool)(G:Heap)(x:Option (List AV)):Option (Out×Heap):=match x with
 |none=>none
 |some vs=>if bq then some (.ret (VT vs),G) else kN n (norm G (VT vs))
def kF (n:Nat)(res:List sH)(bq:Bool)(x:Rs):Option (Out×Heap):=match x with
 |some (.iL v,_,G')=>aj n (.iL v) G'
 |some (.exit _,_,_)=>none
 |some (_,aN,G')=>kV n bq G' (VI aN G' res)
 |none=>none
theorem KE {body:aU}{res:List sH}{ka kr:Bool}{args:List AV}{G:Heap}:ic pg call loop ⟨body,res,ka,kr⟩ args G=kF G.length res kr (bo pg call loop G.length body (sE 0 args) G):=by
 unfold ic kF;dsimp only;rcases bo pg call loop G.length body (sE 0 args) G with _|⟨_|_|_|_,_,_⟩<;>dsimp only[kV]<;>(try rfl)
 all_goals
  rcases VI _ _ res with _|vs<;>dsimp only
  cases kr
  ·simp only[aZ,if_false,kN];rcases norm _ (VT vs) with _|⟨_,_⟩<;>rfl
  ·rfl
theorem Fo {n:Nat}{res:List sH}{kr:Bool}{aN:Env}{G:Heap}:kF n res kr (some (.normal,aN,G))=kV n kr G (VI aN G res):=rfl
theorem Fp {n:Nat}{res:List sH}{kr:Bool}{aN:Env}{G:Heap}:kF n res kr (some (.ret,aN,G))=kV n kr G (VI aN G res):=rfl
theorem Fq {n:Nat}{res:List sH}{kr:Bool}{v:AV}{aN:Env}{G:Heap}:kF n res kr (some (.iL v,aN,G))=aj n (.iL v) G:=rfl
theorem Fs {n:Nat}{G:Heap}{vs:List AV}:kV n false G (some vs)=kN n (norm G (VT vs)):=rfl
theorem Ft {n:Nat}{G:Heap}{vs:List AV}:kV n true G (some vs)=some (.ret (VT vs),G):=rfl
theorem Fu {n:Nat}{v:AV}{G:Heap}:kN n (some (v,G))=aj n (.ret v) G:=rfl
end
section
variable {pg:fX}{call:di}{loop:js}{aK:Nat}{p:Prop}[Decidable p]
theorem Xp {d:Option Nat}{o:qd}{r:List CI}{aN:Env}{G:Heap}:kG pg call d o r (some (decide p)) aN G=if p then kG pg call d o r (some true) aN G else kG pg call d o r (some false) aN G:=by
 by_cases h:p<;>simp[h]
theorem W4 {d:Option Nat}{o:qd}{r:List CI}{aN:Env}{G:Heap}:kG pg call d o r (some (!decide p)) aN G=if p then kG pg call d o r (some false) aN G else kG pg call d o r (some true) aN G:=by
 by_cases h:p<;>simp[h]
theorem Xq {a b:aU}{aN:Env}{G:Heap}:kC pg call loop aK a b aN G (some (.p (.b (decide p))))=if p then bo pg call loop aK a aN G else bo pg call loop aK b aN G:=by
 by_cases h:p<;>simp[h,kC]
theorem W5 {a b:aU}{aN:Env}{G:Heap}:kC pg call loop aK a b aN G (some (.p (.b (!decide p))))=if p then bo pg call loop aK b aN G else bo pg call loop aK a aN G:=by
 by_cases h:p<;>simp[h,kC]
theorem Xr {b:aU}{x y:Rs}:kS pg call loop aK b (if p then x else y)=if p then kS pg call loop aK b x else kS pg call loop aK b y:=by
 by_cases h:p<;>simp[h]
theorem Xs {live:List Nat}{x y:Rs}:kR live (if p then x else y)=if p then kR live x else kR live y:=by
 by_cases h:p<;>simp[h]
theorem om {live:List Nat}{chk:List qK}{n:Nat}{x y:Rs}:KD pg live chk n (if p then x else y)=if p then KD pg live chk n x else KD pg live chk n y:=by
 by_cases h:p<;>simp[h]
theorem Xt {id:Nat}{x y:Rs}:kB id (if p then x else y)=if p then kB id x else kB id y:=by
 by_cases h:p<;>simp[h]
theorem Xu {n:Nat}{res:List sH}{kr:Bool}{x y:Rs}:kF n res kr (if p then x else y)=if p then kF n res kr x else kF n res kr y:=by
 by_cases h:p<;>simp[h]
theorem W6 {live:List Nat}{body:aU}{x y:Rs}:xD pg aK live body (if p then x else y)=if p then xD pg aK live body x else xD pg aK live body y:=by
 by_cases h:p<;>simp[h]
theorem Xv {d:Option Nat}{r:List CI}{aN:Env}{x y:Option jV}:kO pg call d r (if p then x else y) aN=if p then kO pg call d r x aN else kO pg call d r y aN:=by
 by_cases h:p<;>simp[h]
end
section
theorem PI:List.range 0=[]:=rfl
theorem PJ:List.range 1=[0]:=rfl
theorem PK:List.range 2=[0,1]:=rfl
theorem PL:List.range 3=[0,1,2]:=rfl
theorem PM:List.range 4=[0,1,2,3]:=rfl
theorem PN:List.range 5=[0,1,2,3,4]:=rfl
theorem PO:List.range 6=[0,1,2,3,4,5]:=rfl
theorem PQ:List.range 7=[0,1,2,3,4,5,6]:=rfl
theorem PR:List.range 8=[0,1,2,3,4,5,6,7]:=rfl
theorem PT:List.range 9=[0,1,2,3,4,5,6,7,8]:=rfl
attribute [simp] Ae Af vq XE pA vr Yb Ag E_ Fa Fb Fc K2 Fe Ff Ai Ah K3 K4 Fg Fh K5 Fi Fj Fk Fl vu Aj Yc K6 Fm Ak Am An Ao KE Fo Fp Fq Fs Ft Fu Uu oV tu eH gQ lk put U9 sE VI VT norm Vu one Out.bf bf cH ym iM fN iB AV.cells AV.flat PV.flat Vn lT bP fO UZ jV.of Wr Ys jr asInt eu gC eU Vc VS o9 fI.id eP PI PJ PK PL PM PN PO PQ PR PT
variable {pg:fX}{G:Heap}
def dB (o:Option Nat):Int:=match o with
 |some k=>k
 |none=>-1
theorem K7 (h:bY pg){body:aU}(hb:body=X_){f:Nat}{first aV:List AV}{ay:List (List PV)}{q:List PV->Bool}(hl:ay.length<2 ^ 40)(ho:G.all (ym G.length)=true)(hf:bf G.length (.fn f first aV)=true)
  (hr:∀row,row∈ay->aS 2 row=true) (hq:∀row,row∈ay->UM pg (E pg) f (first++[.ag (bP row)]++aV) G=some (.ret (.p (.b (q row))),G)) :
  ∀(n i:Nat),i+n=ay.length->L pg G.length [0,1,7,8] body [(0,.p (.sl ay)),(1,.fn f first aV),(7,.p (.i .i64 ay.length)),(8,.p (.i .i64 i))] G =
   some (match (ay.drop i).findIdx? q with
    |some k=>(.ret,[(4,.p (.i .i64 (i+k:Nat)))],G)
    |none=>(.exit 0,[(0,.p (.sl ay)),(1,.fn f first aV),(7,.p (.i .i64 ay.length)),(8,.p (.i .i64 ay.length)),(9,.p (.b false))],G))
 |0,i,hi=>by
  have:i=ay.length:=by omega
  subst this;rw[dA hb];simp[X_,aj]
 |n+1,i,hi=>by
  have hlt:i<ay.length:=by omega
  have hd:ay.drop i=ay[i]::ay.drop (i+1):=aM hlt;have h1:=hr _ (bM hlt);have h2:=hq _ (bM hlt);have h3:ay[i].length=2:=by simp[aS]at h1;exact h1.1
  have h4:ay[i].take 2=ay[i]:=by rw[<- h3];simp
  rw[dA hb,hd,List.findIdx?_cons];cases hqv:q ay[i] with
  |true =>
   rw[hqv]at h2;simp only[pd,aH,aL,bP]at h2;simp[X_,aj,hlt,h1,h3,h4,h2]
  |false =>
   rw[hqv]at h2;simp only[pd,aH,aL,bP]at h2;simp[X_,aj,hlt,h1,h3,h4,h2,cR ((i:Int)+1)];rw[um rfl ho (by simp[aj];simpa [bf] using hf)];simp[aj];rw[show((i:Int)+1)=((i+1:Nat):Int) from by omega,K7 h hb hl ho hf hr hq n (i+1) (by omega)];simp;cases (ay.drop (i+1)).findIdx? q with
   |none=>simp
   |some k=>simp;omega
theorem K8 (h:bY pg){f:Nat}{first aV:List AV}{ay:List (List PV)}{q:List PV->Bool}(hl:ay.length<2 ^ 40)(ho:G.all (ym G.length)=true)(hf:bf G.length (.fn f first aV)=true)
  (hr:∀row,row∈ay->aS 2 row=true) (hq:∀row,row∈ay->UM pg (E pg) f (first++[.ag (bP row)]++aV) G=some (.ret (.p (.b (q row))),G)) :
  E pg 187 [.p (.sl ay),.fn f first aV] G=some (.ret (.p (.i .i64 (dB (ay.findIdx? q)))),G):=by
 rw[h.run (x:=DR)];have hl2:=λv=>vp (o:=.ret (.p v)) (G:=G) rfl ho rfl;simp[DR];rw[um rfl ho (by simp[aj];simpa [bf] using hf)];simp[lk];rw[show AV.p (.i .i64 0)=.p (.i .i64 ((0:Nat):Int)) from rfl,K7 h rfl hl ho hf hr hq ay.length 0 (by omega)];simp only[bp];cases ay.findIdx? q with
 |none=>simp[hl2,dB]
 |some k=>simp[hl2,dB]
theorem K9 (h:bY pg){body:aU}(hb:body=X9){f:Nat}{first aV:List AV}{ay:List (List PV)}{q:List PV->Bool}(hl:ay.length<2 ^ 40)(ho:G.all (ym G.length)=true)(hf:bf G.length (.fn f first aV)=true)
  (hr:∀row,row∈ay->aS 2 row=true) (hq:∀row,row∈ay->UM pg (E pg) f (first++[.ag (bP row)]++aV) G=some (.ret (.p (.b (q row))),G)) :
  ∀(n i:Nat),i+n=ay.length->L pg G.length [0,1,7,8] body [(0,.p (.sl ay)),(1,.fn f first aV),(7,.p (.i .i64 ay.length)),(8,.p (.i .i64 i))] G =
   some (match (ay.drop i).findIdx? q with
    |some k=>(.ret,[(4,.p (.i .i64 (i+k:Nat)))],G)
    |none=>(.exit 0,[(0,.p (.sl ay)),(1,.fn f first aV),(7,.p (.i .i64 ay.length)),(8,.p (.i .i64 ay.length)),(9,.p (.b false))],G))
 |0,i,hi=>by
  have:i=ay.length:=by omega
  subst this;rw[dA hb];simp[X9,aj]
 |n+1,i,hi=>by
  have hlt:i<ay.length:=by omega
  have hd:ay.drop i=ay[i]::ay.drop (i+1):=aM hlt;have h1:=hr _ (bM hlt);have h2:=hq _ (bM hlt);have h3:ay[i].length=2:=by simp[aS]at h1;exact h1.1
  have h4:ay[i].take 2=ay[i]:=by rw[<- h3];simp
  rw[dA hb,hd,List.findIdx?_cons];cases hqv:q ay[i] with
  |true =>
   rw[hqv]at h2;simp only[pd,aH,aL,bP]at h2;simp[X9,aj,hlt,h1,h3,h4,h2]
  |false =>
   rw[hqv]at h2;simp only[pd,aH,aL,bP]at h2;simp[X9,aj,hlt,h1,h3,h4,h2,cR ((i:Int)+1)];rw[um rfl ho (by simp[aj];simpa [bf] using hf)];simp[aj];rw[show((i:Int)+1)=((i+1:Nat):Int) from by omega,K9 h hb hl ho hf hr hq n (i+1) (by omega)];simp;cases (ay.drop (i+1)).findIdx? q with
   |none=>simp
   |some k=>simp;omega
theorem Nt (h:bY pg){f:Nat}{first aV:List AV}{ay:List (List PV)}{q:List PV->Bool}(hl:ay.length<2 ^ 40)(ho:G.all (ym G.length)=true)(hf:bf G.length (.fn f first aV)=true)
  (hr:∀row,row∈ay->aS 2 row=true) (hq:∀row,row∈ay->UM pg (E pg) f (first++[.ag (bP row)]++aV) G=some (.ret (.p (.b (q row))),G)) :
  E pg 175 [.p (.sl ay),.fn f first aV] G=some (.ret (.p (.i .i64 (dB (ay.findIdx? q)))),G):=by
 rw[h.run (x:=G_)];have hl2:=λv=>vp (o:=.ret (.p v)) (G:=G) rfl ho rfl;simp[G_];rw[um rfl ho (by simp[aj];simpa [bf] using hf)];simp[lk];rw[show AV.p (.i .i64 0)=.p (.i .i64 ((0:Nat):Int)) from rfl,K9 h rfl hl ho hf hr hq ay.length 0 (by omega)];simp only[bp];cases ay.findIdx? q with
 |none=>simp[hl2,dB]
 |some k=>simp[hl2,dB]
theorem K_ (h:bY pg){body:aU}(hb:body=vc){l:List Int}{v:Int}(hl:l.length<2 ^ 40) :
  ∀(n i:Nat),i+n=l.length->L pg 0 [0,1,7,8] body [(0,.p (.sl (l.map λx=>[.i .i64 x]))),(1,.p (.i .i64 v)),(7,.p (.i .i64 l.length)),(8,.p (.i .i64 i))] [] =
   some (match (l.drop i).findIdx? (λx=>decide (v=x)) with
    |some k=>(.ret,[(4,.p (.i .i64 (i+k:Nat)))],[])
    |none=>(.exit 0,[(0,.p (.sl (l.map λx=>[.i .i64 x]))),(1,.p (.i .i64 v)),(7,.p (.i .i64 l.length)),(8,.p (.i .i64 l.length)),(9,.p (.b false))],[]))
 |0,i,hi=>by
  have:i=l.length:=by omega
  subst this;rw[dA hb];simp[vc,aj]
 |n+1,i,hi=>by
  have hlt:i<l.length:=by omega
  have hd:l.drop i=l[i]::l.drop (i+1):=aM hlt;rw[dA hb,hd,List.findIdx?_cons];by_cases hqv:v=l[i]
  ·simp[vc,aj,hlt,hqv,aS]
  ·simp[vc,aj,hlt,hqv,aS,gc,exp,aQ,UG,cR ((i:Int)+1)];rw[show((i:Int)+1)=((i+1:Nat):Int) from by omega,K_ h hb hl n (i+1) (by omega)];simp;cases (l.drop (i+1)).findIdx? (λx=>decide (v=x)) with
   |none=>simp
   |some k=>simp;omega
theorem t130 (h:bY pg){l:List Int}{v:Int}(hl:l.length<2 ^ 40):UM pg (E pg) 130 [.p (.sl (l.map λx=>[.i .i64 x])),.p (.i .i64 v)] G=some (.ret (.p (.b (l.contains v))),G):=by
 refine Ut ?_ rfl rfl;have h1:E pg 140 [.p (.sl (l.map λx=>[.i .i64 x])),.p (.i .i64 v)] []=some (.ret (.p (.i .i64 (dB (l.findIdx? (λx=>decide (v=x)))))),[]):=by
  rw[h.run (x:=Jd)];simp[Jd,aj,gc,exp,aQ,UG];rw[show AV.p (.i .i64 0)=.p (.i .i64 ((0:Nat):Int)) from rfl,K_ h rfl hl l.length 0 (by omega)];simp only[bp];cases l.findIdx? (λx=>decide (v=x)) with
  |none=>simp[aj,dB]
  |some k=>simp[aj,dB]
 rw[h.run (x:=GY)];simp[GY,aj,Ut (G:=[]) h1 rfl rfl];cases hk:l.findIdx? (λx=>decide (v=x)) with
 |none =>
  simp[dB];simp at hk;intro hm;exact hk _ hm rfl
 |some k =>
  simp[dB];obtain⟨h1,h2,h3⟩:=List.findIdx?_eq_some_iff_getElem.1 hk;simp at h2;rw[h2];exact bM h1
end
section
variable {pg:fX}{G:Heap}
theorem Nu (h:bY pg)(n a b:Int):E pg 134 [.p (.i .i64 n),.p (.i .i64 a),.p (.i .i64 b)] []=some (.ret (.p (.b (decide (a<=n/\n<=b)))),[]):=by
 rw[h.run (x:=Jb)];by_cases h1:a<=n<;>simp[h1,Jb,aj]
theorem t134 (h:bY pg)(n a b:Int):UM pg (E pg) 134 [.p (.i .i64 n),.p (.i .i64 a),.p (.i .i64 b)] G=some (.ret (.p (.b (decide (a<=n/\n<=b)))),G):=Ut (Nu h n a b) rfl rfl
theorem Nv (h:bY pg):E pg 149 [] []=some (.ret (.ag (bP ((List.range 14).map λk=>iv (eL k)))),[]):=by
 rw[h.run (x:=YV)];simp[YV,aj,eL,List.range,List.range.loop]
theorem t149 (h:bY pg):UM pg (E pg) 149 [] G=some (.ret (.ag (bP ((List.range 14).map λk=>iv (eL k)))),G):=Ut (Nv h) rfl rfl
theorem t136 (h:bY pg)(k l:Nat)(n:Int)(name:List UInt8)(aY:List (List UInt8×Nat))(to:List aq)(ha:aY.length<2 ^ 40) :
  UM pg (E pg) 136 [.ag [.p (.i .i64 k),.p (.i .i64 l),.p (.i .i64 n),.p (.s name),.p (.sl (aY.map Ux)),.p (.sl (to.map aq.aw))]] G=some (.ret (.p (.i .i64 ((Up.mk k l n name aY to).bO:Nat))),G):=by
 refine Ut ?_ rfl rfl;rw[h.run (x:=wX)];by_cases h1:(k:Int)=8
 ·have:k=8:=by omega
  subst this;simp[wX,aj,Up.bO]
 ·by_cases h2:(k:Int)=9
  ·have:k=9:=by omega
   subst this;simp[wX,aj,Up.bO,cR (2+(aY.length:Int))]
  ·have h1':k≠8:=by omega
   have h2':k≠9:=by omega
   by_cases h3:(k:Int)<=13
   ·have h4:(k:Int)<14:=by omega
    have h5:k<14:=by omega
    simp[h1,h2,h3,h4,h5,h1',h2',wX,aj,Up.bO,t134 h,t149 h,(show bC pg 149=false from h.bq (x:=YV) rfl),List.getElem?_range]
   ·have h5:¬ k<14:=by omega
    simp[h1,h2,h3,h5,h1',h2',wX,aj,Up.bO,t134 h,t149 h,nf h5]
theorem t160 (h:bY pg)(k l:Nat)(n:Int)(name:List UInt8)(aY to:List (List PV)) :
  UM pg (E pg) 160 [.ag [.p (.i .i64 k),.p (.i .i64 l),.p (.i .i64 n),.p (.s name),.p (.sl aY),.p (.sl to)]] G=some (.ret (.p (.b (decide (k=0)))),G):=by
 refine Ut ?_ rfl rfl;rw[h.run (x:=Jh)];simp[Jh,aj]
theorem Nw (h:bY pg)(name:List UInt8)(m:Nat)(b:List UInt8×Nat) :
  E pg 173 [.ag [.p (.s b.1),.p (.i .i64 b.2)],.ptr 0 0] [.box [.p (.s name),.p (.i .i64 m)]]=some (.ret (.p (.b (decide (b.1=name)))),[.box [.p (.s name),.p (.i .i64 m)]]):=by
 rw[h.run (x:=Jn)];simp[Jn,aj]
theorem t173 (h:bY pg)(name:List UInt8)(m:Nat)(b:List UInt8×Nat) :
  UM pg (E pg) 173 [.ag [.p (.s b.1),.p (.i .i64 b.2)],.ptr 0 0] [.box [.p (.s name),.p (.i .i64 m)]]=some (.ret (.p (.b (decide (b.1=name)))),[.box [.p (.s name),.p (.i .i64 m)]]):=by
 simp[UM,gc,exp,aQ,UG,Nw h,Out.back,back,dh,UL,bD,b_]
theorem oq {α:Type}{sz:Nat}{f:α->List PV}(hf:∀a,aS sz (f a)=true)(l:List α):∀row,row∈l.map f->aS sz row=true:=by
 intro row hr;obtain⟨a,_,rfl⟩:=bj.1 hr;exact hf a
theorem Fv (a:List UInt8×Nat):aS 2 (Ux a)=true:=by simp[Ux,aS,PV.flat]
theorem vw (a:aq):aS 2 a.aw=true:=by simp[aq.aw,aS,PV.flat]
theorem sW (a:Up):aS 6 a.aw=true:=by simp[Up.aw,aS,PV.flat]
theorem Nx (h:bY pg)(name:List UInt8)(m:Nat)(l:List (List UInt8×Nat))(hl:l.length<2 ^ 40) :
  E pg 174 [.p (.sl (l.map Ux)),.fn 173 [] [.ptr 0 0]] [.box [.p (.s name),.p (.i .i64 m)]]=some (.ret (.p (.b (l.any λb=>decide (b.1=name)))),[.box [.p (.s name),.p (.i .i64 m)]]):=by
 have h1:=K8 (G:=[.box [.p (.s name),.p (.i .i64 m)]]) h (f:=173) (first:=[]) (aV:=[.ptr 0 0]) (ay:=l.map Ux) (q:=λrow=>match row with|.s x::_=>decide (x=name)|_=>false) (by simpa using hl) rfl rfl (oq Fv l) (by
  intro row hr;obtain⟨b,_,rfl⟩:=bj.1 hr;simpa [Ux,bP] using t173 h name m b)
 have h2:(l.map Ux).findIdx? (λrow=>match row with|.s x::_=>decide (x=name)|_=>false)=l.findIdx? λb=>decide (b.1=name):=by
  rw[List.findIdx?_map];rfl
 rw[h2]at h1;rw[h.run (x:=G9)];simp[G9,aj,UM,gc,exp,aQ,UG,h1,Out.back,back,dh,UL,bD,b_,(show bC pg 187=false from h.bq (x:=DR) rfl)];cases hk:l.findIdx? (λb=>decide (b.1=name)) with
 |none =>
  simp[dB];simpa using hk
 |some k =>
  simp[dB];obtain⟨h1,h2,h3⟩:=List.findIdx?_eq_some_iff_getElem.1 hk;simp at h2;exact⟨l[k].2,by rw[<- h2];exact bM h1⟩
theorem t174 (h:bY pg)(name:List UInt8)(m:Nat)(l:List (List UInt8×Nat))(hl:l.length<2 ^ 40)(c:List AV) :
  UM pg (E pg) 174 [.p (.sl (l.map Ux)),.fn 173 [] [.ptr 1 0]] [.box c,.box [.p (.s name),.p (.i .i64 m)]]=some (.ret (.p (.b (l.any λb=>decide (b.1=name)))),[.box c,.box [.p (.s name),.p (.i .i64 m)]]):=by
 simp[UM,gc,exp,aQ,UG,Nx h _ _ _ hl,Out.back,back,dh,UL,bD,b_,(show bC pg 174=false from h.bq (x:=G9) rfl)]
theorem fA {α:Type}{sz:Nat}{f:α->List PV}(hf:∀a,aS sz (f a)=true)(l:List α):bH sz (l.map f)=true:=by
 simp only[bH,bc];exact oq hf l
theorem La (h:bY pg){body:aU}(hb:body=qW){all:List (List UInt8×Nat)}(hl:all.length<2 ^ 40){c:List AV}(hc:c[4]?=some (.p (.sl (all.map Ux))))(hcb:cH 0 c=true) :
  ∀(n i:Nat),i+n=all.length->∃H,L pg 0 [1,14,15,16] body [(1,.ptr 0 0),(14,.p (.sl (all.map Ux))),(15,.p (.i .i64 all.length)),(16,.p (.i .i64 i))] [.box c] =
   some (bif eM all i (all.drop i) then (.exit 0,[(1,.ptr 0 0),(14,.p (.sl (all.map Ux))),(15,.p (.i .i64 all.length)),(16,.p (.i .i64 all.length)),(17,.p (.b false))],[.box c]) else (.ret,[(2,.p (.b false))],H))
 |0,i,hi=>by
  have:i=all.length:=by omega
  subst this;rw[dA hb];refine⟨[],?_⟩;simp[qW,aj,eM]
 |n+1,i,hi=>by
  have hlt:i<all.length:=by omega
  have hd:all.drop i=all[i]::all.drop (i+1):=aM hlt;obtain⟨H,ih⟩:=La h hb hl hc hcb n (i+1) (by omega);rw[dA hb,hd];have e0:=fA Fv all;have e1:aS 2 (Ux all[i])=true:=Fv _;simp only[eM];have hle:i<=all.length:=by omega
  have htl:(all.take i).length<2 ^ 40:=by simp;omega
  by_cases h1:all[i].1=[]
  ·refine⟨[.box c,.box [.p (.s []),.p (.i .i64 all[i].2)]],?_⟩;simp[qW,aj,hlt,Ux,aS,h1]
  ·by_cases h2:all[i].2<=8
   ·have h2':(all[i].2:Int)<=8:=by omega
    have ht:=t174 h all[i].1 all[i].2 (all.take i) htl c;simp only[da]at ht;rcases lf ((all.take i).any λb=>decide (b.1=all[i].1)) with hq|hq
    ·rw[hq]at ht;refine⟨[.box c,.box [.p (.s all[i].1),.p (.i .i64 all[i].2)]],?_⟩;rw[hq];simp[qW,aj,hlt,hle,Ux,aS,h1,h2,h2',t134 h,jQ,e0,hc,ht]
    ·rw[hq]at ht;refine⟨H,?_⟩;have hce:∀e,aQ true e c=some (c,e):=λe=>Wd (aK:=0) (λid h=>by omega) hcb;rw[show((i+1:Nat):Int)=(i:Int)+1 from by omega]at ih;rw[hq];simp[qW,aj,hlt,hle,Ux,aS,h1,h2,h2',t134 h,jQ,e0,hc,ht,cR ((i:Int)+1),gc,exp,aQ,UG,hce,ih]
   ·have h2':¬ (all[i].2:Int)<=8:=by omega
    refine⟨[.box c,.box [.p (.s all[i].1),.p (.i .i64 all[i].2)]],?_⟩;simp[qW,aj,hlt,Ux,aS,h1,h2,h2',t134 h]
theorem t148 (h:bY pg)(k l:Nat)(n:Int)(name:List UInt8)(aY:List (List UInt8×Nat))(to:List aq)(ha:aY.length<2 ^ 40) :
  UM pg (E pg) 148 [.ag [.p (.i .i64 k),.p (.i .i64 l),.p (.i .i64 n),.p (.s name),.p (.sl (aY.map Ux)),.p (.sl (to.map aq.aw))]] G=some (.ret (.p (.b (Up.mk k l n name aY to).fP)),G):=by
 refine Ut ?_ rfl rfl;rw[h.run (x:=YU)];by_cases h1:k=9
 ·subst h1;obtain⟨H,hL⟩:=La h rfl ha (c:=[.p (.i .i64 9),.p (.i .i64 l),.p (.i .i64 n),.p (.s name),.p (.sl (aY.map Ux)),.p (.sl (to.map aq.aw))]) rfl rfl aY.length 0 (by omega);simp[YU,aj,gc,exp,aQ,UG];rw[show AV.p (.i .i64 0)=.p (.i .i64 ((0:Nat):Int)) from rfl,hL];simp only[bp];cases hq:eM aY 0 aY with
  |true =>
   simp[aj,t134 h,Up.fP,hq];rw[iR];simp;omega
  |false=>simp[aj,Up.fP,hq]
 ·have:¬ (k:Int)=9:=by omega
  simp[YU,aj,this,Up.fP,h1]
theorem t135 (h:bY pg)(k l:Nat)(n:Int)(name:List UInt8)(aY:List (List UInt8×Nat))(to:List aq)(ha:aY.length<2 ^ 40) :
  UM pg (E pg) 135 [.ag [.p (.i .i64 k),.p (.i .i64 l),.p (.i .i64 n),.p (.s name),.p (.sl (aY.map Ux)),.p (.sl (to.map aq.aw))]] G=some (.ret (.p (.b (Up.mk k l n name aY to).ok)),G):=by
 refine Ut ?_ rfl rfl;rw[h.run (x:=iu)];by_cases h1:(k:Int)<=13
 ·have h1':k<=13:=by omega
  cases h2:(Up.mk k l n name aY to).fP with
  |false=>simp[iu,aj,h1,h1',t134 h,t148 h _ _ _ _ _ _ ha,h2,Up.ok]
  |true =>
   have hk:k=0\/k=1\/k=8\/k=10\/k=11\/k=12\/(k≠0/\k≠1/\k≠8/\k≠10/\k≠11/\k≠12):=by omega
   have x134:=@t134 pg;rcases hk with hk|hk|hk|hk|hk|hk|hk
   ·have e1:((k:Int)<=13)=True:=Ur h1;have e1':(k<=13)=True:=Ur h1';have i0:((k:Int)=0)=True:=mA;have n0:(k=0)=True:=mA;have i1:((k:Int)=1)=False:=cC;have n1:(k=1)=False:=cC;have i8:((k:Int)=8)=False:=cC;have n8:(k=8)=False:=cC;have i10:((k:Int)=10)=False:=cC;have n10:(k=10)=False:=cC;have i11:((k:Int)=11)=False:=cC;have n11:(k=11)=False:=cC;have i12:((k:Int)=12)=False:=cC;have n12:(k=12)=False:=cC;have nl:(k<=1)=True:=mA;by_cases h3:l<=0
    ·have h3':(l:Int)<=0:=by omega
     by_cases h4:name=[]
     ·by_cases h5:n=0
      ·simp[iu,aj,t134 h,t148 h _ _ _ _ _ _ ha,h2,Up.ok,e1,e1',nl,i0,n0,i1,n1,i8,n8,i10,n10,i11,n11,i12,n12,Ur (show l=0 from by omega),Ur (show(l:Int)<=0 from by omega),Ur h4,Ur h5]
      ·simp[iu,aj,t134 h,t148 h _ _ _ _ _ _ ha,h2,Up.ok,e1,e1',nl,i0,n0,i1,n1,i8,n8,i10,n10,i11,n11,i12,n12,Ur (show l=0 from by omega),Ur (show(l:Int)<=0 from by omega),Ur h4,az h5]
     ·simp[iu,aj,t134 h,t148 h _ _ _ _ _ _ ha,h2,Up.ok,e1,e1',nl,i0,n0,i1,n1,i8,n8,i10,n10,i11,n11,i12,n12,Ur (show l=0 from by omega),Ur (show(l:Int)<=0 from by omega),az h4]
    ·have h3':¬ (l:Int)<=0:=by omega
     have h3'':l≠0:=by omega
     simp[iu,aj,t134 h,t148 h _ _ _ _ _ _ ha,h2,Up.ok,e1,e1',nl,i0,n0,i1,n1,i8,n8,i10,n10,i11,n11,i12,n12,h3'']
   ·have e1:((k:Int)<=13)=True:=Ur h1;have e1':(k<=13)=True:=Ur h1';have i0:((k:Int)=0)=False:=cC;have n0:(k=0)=False:=cC;have i1:((k:Int)=1)=True:=mA;have n1:(k=1)=True:=mA;have i8:((k:Int)=8)=False:=cC;have n8:(k=8)=False:=cC;have i10:((k:Int)=10)=False:=cC;have n10:(k=10)=False:=cC;have i11:((k:Int)=11)=False:=cC;have n11:(k=11)=False:=cC;have i12:((k:Int)=12)=False:=cC;have n12:(k=12)=False:=cC;have nl:(k<=1)=True:=mA;by_cases h3:l<=0
    ·have h3':(l:Int)<=0:=by omega
     by_cases h4:name=[]
     ·by_cases h5:n=0
      ·simp[iu,aj,t134 h,t148 h _ _ _ _ _ _ ha,h2,Up.ok,e1,e1',nl,i0,n0,i1,n1,i8,n8,i10,n10,i11,n11,i12,n12,Ur (show l=0 from by omega),Ur (show(l:Int)<=0 from by omega),Ur h4,Ur h5]
      ·simp[iu,aj,t134 h,t148 h _ _ _ _ _ _ ha,h2,Up.ok,e1,e1',nl,i0,n0,i1,n1,i8,n8,i10,n10,i11,n11,i12,n12,Ur (show l=0 from by omega),Ur (show(l:Int)<=0 from by omega),Ur h4,az h5]
     ·simp[iu,aj,t134 h,t148 h _ _ _ _ _ _ ha,h2,Up.ok,e1,e1',nl,i0,n0,i1,n1,i8,n8,i10,n10,i11,n11,i12,n12,Ur (show l=0 from by omega),Ur (show(l:Int)<=0 from by omega),az h4]
    ·have h3':¬ (l:Int)<=0:=by omega
     have h3'':l≠0:=by omega
     simp[iu,aj,t134 h,t148 h _ _ _ _ _ _ ha,h2,Up.ok,e1,e1',nl,i0,n0,i1,n1,i8,n8,i10,n10,i11,n11,i12,n12,h3'']
   ·have e1:((k:Int)<=13)=True:=Ur h1;have e1':(k<=13)=True:=Ur h1';have i0:((k:Int)=0)=False:=cC;have n0:(k=0)=False:=cC;have i1:((k:Int)=1)=False:=cC;have n1:(k=1)=False:=cC;have i8:((k:Int)=8)=True:=mA;have n8:(k=8)=True:=mA;have i10:((k:Int)=10)=False:=cC;have n10:(k=10)=False:=cC;have i11:((k:Int)=11)=False:=cC;have n11:(k=11)=False:=cC;have i12:((k:Int)=12)=False:=cC;have n12:(k=12)=False:=cC;have nl:(k<=1)=False:=cC;by_cases h3:l<=60
    ·have h3':(l:Int)<=60:=by omega
     by_cases h4:name=[]
     ·simp[iu,aj,t134 h,t148 h _ _ _ _ _ _ ha,h2,Up.ok,e1,e1',nl,i0,n0,i1,n1,i8,n8,i10,n10,i11,n11,i12,n12,Ur h3,Ur h3',Ur h4]
     ·by_cases h5:n=0
      ·by_cases h6:1<=to.length/\to.length<=9
       ·have h7:(1:Int)<=to.length/\(to.length:Int)<=9:=by omega
        simp[iu,aj,t134 h,t148 h _ _ _ _ _ _ ha,h2,Up.ok,e1,e1',nl,i0,n0,i1,n1,i8,n8,i10,n10,i11,n11,i12,n12,Ur h3,Ur h3',az h4,Ur h5,h6.1,h6.2,h7.1,h7.2]
       ·have h7:¬ ((1:Int)<=to.length/\(to.length:Int)<=9):=by omega
        have h7':((1:Int)<=to.length/\(to.length:Int)<=9)=False:=az h7;have h6':(1<=to.length/\to.length<=9)=False:=az h6;simp[iu,aj,t134 h,t148 h _ _ _ _ _ _ ha,h2,Up.ok,e1,e1',nl,i0,n0,i1,n1,i8,n8,i10,n10,i11,n11,i12,n12,Ur h3,Ur h3',az h4,Ur h5,h6',h7']
      ·simp[iu,aj,t134 h,t148 h _ _ _ _ _ _ ha,h2,Up.ok,e1,e1',nl,i0,n0,i1,n1,i8,n8,i10,n10,i11,n11,i12,n12,Ur h3,Ur h3',az h4,az h5]
    ·have h3':¬ (l:Int)<=60:=by omega
     simp[iu,aj,t134 h,t148 h _ _ _ _ _ _ ha,h2,Up.ok,e1,e1',nl,i0,n0,i1,n1,i8,n8,i10,n10,i11,n11,i12,n12,az h3,az h3']
   ·have e1:((k:Int)<=13)=True:=Ur h1;have e1':(k<=13)=True:=Ur h1';have i0:((k:Int)=0)=False:=cC;have n0:(k=0)=False:=cC;have i1:((k:Int)=1)=False:=cC;have n1:(k=1)=False:=cC;have i8:((k:Int)=8)=False:=cC;have n8:(k=8)=False:=cC;have i10:((k:Int)=10)=True:=mA;have n10:(k=10)=True:=mA;have i11:((k:Int)=11)=False:=cC;have n11:(k=11)=False:=cC;have i12:((k:Int)=12)=False:=cC;have n12:(k=12)=False:=cC;have nl:(k<=1)=False:=cC;by_cases h3:l<=60
    ·have h3':(l:Int)<=60:=by omega
     by_cases h4:name=[]
     ·by_cases h5:n=0
      ·simp[iu,aj,t134 h,t148 h _ _ _ _ _ _ ha,h2,Up.ok,e1,e1',nl,i0,n0,i1,n1,i8,n8,i10,n10,i11,n11,i12,n12,Ur h3,Ur h3',Ur h4,Ur h5]
      ·simp[iu,aj,t134 h,t148 h _ _ _ _ _ _ ha,h2,Up.ok,e1,e1',nl,i0,n0,i1,n1,i8,n8,i10,n10,i11,n11,i12,n12,Ur h3,Ur h3',Ur h4,az h5]
     ·simp[iu,aj,t134 h,t148 h _ _ _ _ _ _ ha,h2,Up.ok,e1,e1',nl,i0,n0,i1,n1,i8,n8,i10,n10,i11,n11,i12,n12,Ur h3,Ur h3',az h4]
    ·have h3':¬ (l:Int)<=60:=by omega
     simp[iu,aj,t134 h,t148 h _ _ _ _ _ _ ha,h2,Up.ok,e1,e1',nl,i0,n0,i1,n1,i8,n8,i10,n10,i11,n11,i12,n12,az h3,az h3']
   ·have e1:((k:Int)<=13)=True:=Ur h1;have e1':(k<=13)=True:=Ur h1';have i0:((k:Int)=0)=False:=cC;have n0:(k=0)=False:=cC;have i1:((k:Int)=1)=False:=cC;have n1:(k=1)=False:=cC;have i8:((k:Int)=8)=False:=cC;have n8:(k=8)=False:=cC;have i10:((k:Int)=10)=False:=cC;have n10:(k=10)=False:=cC;have i11:((k:Int)=11)=True:=mA;have n11:(k=11)=True:=mA;have i12:((k:Int)=12)=False:=cC;have n12:(k=12)=False:=cC;have nl:(k<=1)=False:=cC;by_cases h3:l<=60
    ·have h3':(l:Int)<=60:=by omega
     by_cases h4:name=[]
     ·simp[iu,aj,t134 h,t148 h _ _ _ _ _ _ ha,h2,Up.ok,e1,e1',nl,i0,n0,i1,n1,i8,n8,i10,n10,i11,n11,i12,n12,Ur h3,Ur h3',Ur h4]
     ·by_cases h5:n=0
      ·simp[iu,aj,t134 h,t148 h _ _ _ _ _ _ ha,h2,Up.ok,e1,e1',nl,i0,n0,i1,n1,i8,n8,i10,n10,i11,n11,i12,n12,Ur h3,Ur h3',az h4,Ur h5]
      ·simp[iu,aj,t134 h,t148 h _ _ _ _ _ _ ha,h2,Up.ok,e1,e1',nl,i0,n0,i1,n1,i8,n8,i10,n10,i11,n11,i12,n12,Ur h3,Ur h3',az h4,az h5]
    ·have h3':¬ (l:Int)<=60:=by omega
     simp[iu,aj,t134 h,t148 h _ _ _ _ _ _ ha,h2,Up.ok,e1,e1',nl,i0,n0,i1,n1,i8,n8,i10,n10,i11,n11,i12,n12,az h3,az h3']
   ·have e1:((k:Int)<=13)=True:=Ur h1;have e1':(k<=13)=True:=Ur h1';have i0:((k:Int)=0)=False:=cC;have n0:(k=0)=False:=cC;have i1:((k:Int)=1)=False:=cC;have n1:(k=1)=False:=cC;have i8:((k:Int)=8)=False:=cC;have n8:(k=8)=False:=cC;have i10:((k:Int)=10)=False:=cC;have n10:(k=10)=False:=cC;have i11:((k:Int)=11)=False:=cC;have n11:(k=11)=False:=cC;have i12:((k:Int)=12)=True:=mA;have n12:(k=12)=True:=mA;have nl:(k<=1)=False:=cC;by_cases h3:l<=60
    ·have h3':(l:Int)<=60:=by omega
     by_cases h4:name=[]
     ·simp[iu,aj,t134 h,t148 h _ _ _ _ _ _ ha,h2,Up.ok,e1,e1',nl,i0,n0,i1,n1,i8,n8,i10,n10,i11,n11,i12,n12,Ur h3,Ur h3',Ur h4]
     ·by_cases h5:n=0
      ·simp[iu,aj,t134 h,t148 h _ _ _ _ _ _ ha,h2,Up.ok,e1,e1',nl,i0,n0,i1,n1,i8,n8,i10,n10,i11,n11,i12,n12,Ur h3,Ur h3',az h4,Ur h5]
      ·simp[iu,aj,t134 h,t148 h _ _ _ _ _ _ ha,h2,Up.ok,e1,e1',nl,i0,n0,i1,n1,i8,n8,i10,n10,i11,n11,i12,n12,Ur h3,Ur h3',az h4,az h5]
    ·have h3':¬ (l:Int)<=60:=by omega
     simp[iu,aj,t134 h,t148 h _ _ _ _ _ _ ha,h2,Up.ok,e1,e1',nl,i0,n0,i1,n1,i8,n8,i10,n10,i11,n11,i12,n12,az h3,az h3']
   ·have e1:((k:Int)<=13)=True:=Ur h1;have e1':(k<=13)=True:=Ur h1';have i0:((k:Int)=0)=False:=cC;have n0:(k=0)=False:=cC;have i1:((k:Int)=1)=False:=cC;have n1:(k=1)=False:=cC;have i8:((k:Int)=8)=False:=cC;have n8:(k=8)=False:=cC;have i10:((k:Int)=10)=False:=cC;have n10:(k=10)=False:=cC;have i11:((k:Int)=11)=False:=cC;have n11:(k=11)=False:=cC;have i12:((k:Int)=12)=False:=cC;have n12:(k=12)=False:=cC;have nl:(k<=1)=False:=cC;by_cases h3:l<=60
    ·have h3':(l:Int)<=60:=by omega
     by_cases h4:name=[]
     ·by_cases h5:n=0
      ·simp[iu,aj,t134 h,t148 h _ _ _ _ _ _ ha,h2,Up.ok,e1,e1',nl,i0,n0,i1,n1,i8,n8,i10,n10,i11,n11,i12,n12,Ur h3,Ur h3',Ur h4,Ur h5]
      ·simp[iu,aj,t134 h,t148 h _ _ _ _ _ _ ha,h2,Up.ok,e1,e1',nl,i0,n0,i1,n1,i8,n8,i10,n10,i11,n11,i12,n12,Ur h3,Ur h3',Ur h4,az h5]
     ·simp[iu,aj,t134 h,t148 h _ _ _ _ _ _ ha,h2,Up.ok,e1,e1',nl,i0,n0,i1,n1,i8,n8,i10,n10,i11,n11,i12,n12,Ur h3,Ur h3',az h4]
    ·have h3':¬ (l:Int)<=60:=by omega
     simp[iu,aj,t134 h,t148 h _ _ _ _ _ _ ha,h2,Up.ok,e1,e1',nl,i0,n0,i1,n1,i8,n8,i10,n10,i11,n11,i12,n12,az h3,az h3']
 ·have h1':¬ k<=13:=by omega
  simp[iu,aj,h1,h1',t134 h,Up.ok]
def allI {α:Type}(q:Nat->α->Bool):Nat->List α->Bool
 |_,[]=>true
 |i,x::r=>q i x && allI q (i+1) r
theorem pB {α:Type}(q:α->Bool):∀(l:List α) (i:Nat),allI (λ_ x=>q x) i l=l.all q
 |[],i=>rfl
 |x::r,i=>by simp[allI,pB q r (i+1)]
theorem BN {α:Type}{aK:Nat}{live:List Nat}{body c:aU}(hb:body=c)(e:Nat->Env)(H H':Heap)(l:List α)(k:Nat)(q:Nat->α->Bool)(r x:Env)
  (h1:∀(i:Nat) (a:α) (hi:i<l.length),l[i]?=some a->l[i]=a->q i a=true->xD pg aK live body (bo pg (E pg) (L pg) aK c (e i) H)=L pg aK live body (e (i+1)) H)
  (h2:∀(i:Nat) (a:α) (hi:i<l.length),l[i]?=some a->l[i]=a->q i a=false->xD pg aK live body (bo pg (E pg) (L pg) aK c (e i) H)=some (.ret,r,H'))
  (h3:xD pg aK live body (bo pg (E pg) (L pg) aK c (e l.length) H)=some (.exit k,x,H)) :
  ∀m i,i+m=l.length->L pg aK live body (e i) H=bif allI q i (l.drop i) then some (.exit k,x,H) else some (.ret,r,H')
 |0,i,hi=>by
  have:i=l.length:=by omega
  subst this;rw[dA hb,h3];simp[allI]
 |m+1,i,hi=>by
  have hlt:i<l.length:=by omega
  have hd:l.drop i=l[i]::l.drop (i+1):=aM hlt;rw[dA hb,hd];simp only[allI];cases hp:q i l[i] with
  |true =>
   rw[h1 i l[i] hlt (gG hlt) rfl hp,BN hb e H H' l k q r x h1 h2 h3 m (i+1) (by omega)];rfl
  |false =>
   rw[h2 i l[i] hlt (gG hlt) rfl hp];rfl
theorem kI {α:Type}{aK:Nat}{live:List Nat}{body c:aU}(hb:body=c)(e:Nat->Env)(H H':Heap)(l:List α)(k:Nat)(q:Nat->α->Bool)(r x:Env)
  (h1:∀(i:Nat) (a:α) (hi:i<l.length),l[i]?=some a->l[i]=a->q i a=true->xD pg aK live body (bo pg (E pg) (L pg) aK c (e i) H)=L pg aK live body (e (i+1)) H)
  (h2:∀(i:Nat) (a:α) (hi:i<l.length),l[i]?=some a->l[i]=a->q i a=false->xD pg aK live body (bo pg (E pg) (L pg) aK c (e i) H)=some (.ret,r,H'))
  (h3:xD pg aK live body (bo pg (E pg) (L pg) aK c (e l.length) H)=some (.exit k,x,H)) :
  L pg aK live body (e 0) H=bif allI q 0 l then some (.exit k,x,H) else some (.ret,r,H') :=
 BN hb e H H' l k q r x h1 h2 h3 l.length 0 (by omega)
theorem CP {α:Type}{aK:Nat}{live:List Nat}{body c:aU}(hb:body=c)(e:Nat->Env)(H:Heap)(l:List α)(k:Nat)(q:Nat->α->Bool)(r x:Env)
  (h1:∀(i:Nat) (a:α) (hi:i<l.length),l[i]?=some a->l[i]=a->q i a=true->xD pg aK live body (bo pg (E pg) (L pg) aK c (e i) H)=L pg aK live body (e (i+1)) H)
  (h2:∀(i:Nat) (a:α) (hi:i<l.length),l[i]?=some a->l[i]=a->q i a=false->∃H',xD pg aK live body (bo pg (E pg) (L pg) aK c (e i) H)=some (.ret,r,H'))
  (h3:xD pg aK live body (bo pg (E pg) (L pg) aK c (e l.length) H)=some (.exit k,x,H)) :
  ∀m i,i+m=l.length->∃H',L pg aK live body (e i) H=bif allI q i (l.drop i) then some (.exit k,x,H) else some (.ret,r,H')
 |0,i,hi=>by
  have:i=l.length:=by omega
  subst this;rw[dA hb,h3];exact⟨[],by simp[allI]⟩
 |m+1,i,hi=>by
  have hlt:i<l.length:=by omega
  have hd:l.drop i=l[i]::l.drop (i+1):=aM hlt;rw[dA hb,hd];simp only[allI];cases hp:q i l[i] with
  |true =>
   rw[h1 i l[i] hlt (gG hlt) rfl hp];exact CP hb e H l k q r x h1 h2 h3 m (i+1) (by omega)
  |false =>
   obtain⟨H',hH⟩:=h2 i l[i] hlt (gG hlt) rfl hp;exact⟨H',by rw[hH];rfl⟩
theorem CQ {α:Type}{aK:Nat}{live:List Nat}{body c:aU}(hb:body=c)(e:Nat->Env)(H:Heap)(l:List α)(k:Nat)(q:Nat->α->Bool)(r x:Env)
  (h1:∀(i:Nat) (a:α) (hi:i<l.length),l[i]?=some a->l[i]=a->q i a=true->xD pg aK live body (bo pg (E pg) (L pg) aK c (e i) H)=L pg aK live body (e (i+1)) H)
  (h2:∀(i:Nat) (a:α) (hi:i<l.length),l[i]?=some a->l[i]=a->q i a=false->∃H',xD pg aK live body (bo pg (E pg) (L pg) aK c (e i) H)=some (.ret,r,H'))
  (h3:xD pg aK live body (bo pg (E pg) (L pg) aK c (e l.length) H)=some (.exit k,x,H)) :
  ∃H',L pg aK live body (e 0) H=bif allI q 0 l then some (.exit k,x,H) else some (.ret,r,H') :=
 CP hb e H l k q r x h1 h2 h3 l.length 0 (by omega)
structure UK where
 ao:Int
 Us:Int
 n:Int
 name:List UInt8
 aY:List (List UInt8×Int)
 to:List (Int×Int)
def Ap (a:List UInt8×Int):List PV:=[.s a.1,iv a.2]
def Fw (p:Int×Int):List PV:=[iv p.1,iv p.2]
def UK.aw (x:UK):List PV:=[iv x.ao,iv x.Us,iv x.n,.s x.name,.sl (x.aY.map Ap),.sl (x.to.map Fw)]
theorem ot (a:UK):aS 6 a.aw=true:=by simp[UK.aw,aS,PV.flat]
def Xw (l:List UK)(most:Int):Bool:=(l.all λx=>decide (x.to.length<=12/\x.aY.length<=12)) && decide ((l.length:Int)<=most)
theorem t9 (h:bY pg)(l:List UK)(C most:Int)(hl:l.length<2 ^ 63) :
  UM pg (E pg) 9 [.ag [.p (.sl (l.map UK.aw)),.p (.i .i64 C)],.p (.i .i64 most)] G=some (.ret (.p (.b (Xw l most))),G):=by
 refine Ut ?_ rfl rfl;rw[h.run (x:=c9)];have hL:=kI (pg:=pg) (aK:=0) (live:=[1,2,5]) (body:=DN) rfl (λi=>[(1,.p (.i .i64 most)),(2,.ptr 0 0),(5,.p (.i .i64 (i:Nat)))]) [.box [.p (.sl (l.map UK.aw)),.p (.i .i64 C)]] [.box [.p (.sl (l.map UK.aw)),.p (.i .i64 C)]]
  l 0 (λ_ x=>decide (x.to.length<=12/\x.aY.length<=12)) [(4,.p (.b false))] [(1,.p (.i .i64 most)),(2,.ptr 0 0),(5,.p (.i .i64 l.length)),(10,.p (.b false))]
  (λi a hi hx hx' hp=>by
   simp only[Uq]at hp;have a1:¬ (12:Int)<(a.to.length:Int):=by omega
   have a2:¬ (12:Int)<(a.aY.length:Int):=by omega
   have e1:=ot a;simp only[UK.aw]at e1;simp[DN,aj,hi,hx,hx',UK.aw,e1,az a1,az a2,cR ((i:Int)+1),gc,exp,aQ,UG])
  (λi a hi hx hx' hp=>by
   simp only[decide_eq_false_iff_not]at hp;have e1:=ot a;simp only[UK.aw]at e1;by_cases a1:(12:Int)<(a.to.length:Int)
   ·simp[DN,aj,hi,hx,hx',UK.aw,e1,Ur a1]
   ·have a2:(12:Int)<(a.aY.length:Int):=by omega
    simp[DN,aj,hi,hx,hx',UK.aw,e1,az a1,Ur a2])
  (by simp[DN,aj])
 simp only[fW,pB]at hL;simp[c9,aj,gc,exp,aQ,UG];rw[hL];unfold Xw;cases l.all λx=>decide (x.to.length<=12/\x.aY.length<=12)<;>simp[aj]
end
end Go.Proofs.Z

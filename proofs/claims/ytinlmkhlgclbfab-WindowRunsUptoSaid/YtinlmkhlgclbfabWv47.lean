/- WinU to WinZF -/
import Derived.Test.YtinlmkhlgclbfabWv31
import Derived.Test.YtinlmkhlgclbfabWv35
import Derived.Test.YtinlmkhlgclbfabWv36
import Derived.Test.YtinlmkhlgclbfabWv37
import Derived.Test.YtinlmkhlgclbfabWv38
import Derived.Test.YtinlmkhlgclbfabWv39
import Derived.Deep.CutBlock
namespace Go.Proofs.Ytinlmkhlgclbfab
open Go.RowKit
section
set_option maxRecDepth 1000000
set_option maxHeartbeats 8000000
variable {KZ KW KU KS KO KM KI KG Kz Kx Kv Kt Kr Ko Km Kk Ki Kg Ke Kc Ka K8 K6 K4 K1 LZ LX LV LT LR LP LN LK LI LG LE LC Lz Lx Lv Lt Lr Lp Ln Ll Lj Lh Lf Ld Lb L6 MY MW MU MS MQ MO MM MK MI MG ME MC MA My Mw Mu Ms Mq Mo Mm Mk Mi Mg Me Mc Ma M8 M6 M4 M2 M0 NY NW NU NS NQ NO NL NJ NH NF ND NB Nz Nx Nv Nt Nr Np Nn Nl Nj Nh Nf Nc Na N8 N6 N4 N2 OZ OX OV OT OR OP ON OL OJ OH OF OD OB Oz Ox Ov Ot Oo Om Ok Oi Og Oe Oc Oa O8 O6 O4 O2 O0 PY PW PU PS PQ PO PM PK PI PG PE PC PA Py Pw Pu Ps Pq Po Pm Pj Ph Pf Pd Pb P9 P7 P5 P3 P1 QZ QX QV QT QR QP QN QL QJ QH QF QD QB Qz Qx Qv Qt Qr Qp Qn Ql Qj Qh Qf Qd Qb Q9 RY RV RT RR RP RM RG RE Rz Rx Rv Rt Rr Rp Rl Rj Rh Rf Rc Ra R8 R5 SZ SX SV ST SR SP SN SL SJ SH SF SD SB Sz Sw Su Ss Sq So Sm Sj Sh Sf Sd Sb S9 S7 S5 TZ TX TV TT TR TP TN TL TJ TH TF TD TB Tz Tw Tu Ts Tq To Tm Th Tf Td Tb UZ UX UV UT UR UP UN UL UJ UH UF UD UB Uz Ux Uv Ut Ur Up Un Ul Uj Uh Uf Ud Ub U9 U7 U5 U3 U1 VZ VX VV VT VR VP VN VL VJ VH VF VD VB Vz Vx Vv Vt Vr Vp Vn Vl Vj Vh Vf Vd : Value}
def firstOf (p:Code→Bool):Code→Option Code
 | .seq a b=>match firstOf p a with
  |some c=>some c
  |none=>firstOf p b
 | .cond t a b=>if p (.cond t a b) then some (.cond t a b) else match firstOf p a with
  |some c=>some c
  |none=>firstOf p b
 | .block n c=>if p (.block n c) then some (.block n c) else firstOf p c
 | .loop c=>firstOf p c
 | .scope c=>firstOf p c
 |c=>if p c then some c else none
def condOf (k:Nat):Code→Bool
 | .cond (.tmp j) _ _=>j==k
 |_=>false
def regionNo (k:Nat):Code→Bool
 | .region j _ _=>j==k
 |_=>false
def blockNo (k:Nat):Code→Bool
 | .block j _=>j==k
 |_=>false
noncomputable def stOf (p:Code→Bool):Code:=((Try.f35.body.bind (firstOf p)).getD .skip)
theorem WmG.sub {w:World}{c:TCfg}{S:TCfgS}{E E':Nat→Prop}{d:TDom}{k:List (List TWay)}{W:World}{G:Nat→Nat→Prop}{T:TDomS}{A:Option Addr}{n:Nat}{F:Nat→Prop}(h:WmG w c S E d k W G T A n F)(hE:∀b,E' b→E b):WmG w c S E' d k W G T A n F:=
 ⟨h.dp,h.kb,h.kr,h.ff,h.gg,h.below,h.b0,h.b3,h.b4,fun b hb=>h.ee b (hE b hb)⟩
def WmJ (w:World) (c:TCfg) (S:TCfgS) (b17 b18:Nat) (a:TAct) (d:TDom) (k:List (List TWay)) (j:TJob) (W:World):Prop:=
 b17≠b18∧∃G T A n F,WmG w c S (fun b=>b=b17∨b=b18) d k W G T A n F∧W.heap[b17]?=some (.cells #[.int .i64 a.kind,.int .i64 a.n,.int .i64 a.value] 65)∧W.heap[b18]?=some (.cells #[.int .i64 j.task,.int .i64 j.number,.int .i64 j.released,.int .i64 j.used,.bool j.ran,.bool j.missed] 110)
theorem WmJ.put {w:World}{c:TCfg}{S:TCfgS}{b17 b18:Nat}{a:TAct}{d d':TDom}{k:List (List TWay)}{j:TJob}{W W':World}{G G':Nat→Nat→Prop}{T T':TDomS}{A:Option Addr}{n:Nat}{F:Nat→Prop}(h17:b17≠b18)(h:WmG w c S (fun b=>b=b17∨b=b18) d k W G T A n F)
  (x17:W.heap[b17]?=some (.cells #[.int .i64 a.kind,.int .i64 a.n,.int .i64 a.value] 65)) (x18:W.heap[b18]?=some (.cells #[.int .i64 j.task,.int .i64 j.number,.int .i64 j.released,.int .i64 j.used,.bool j.ran,.bool j.missed] 110)) (hO:DomO G' W' d' T') (hE:DEff w.heap.size G G' W W'):
  WmJ w c S b17 b18 a d' k j (((((((W'.setCell ⟨w.heap.size+1,0,none⟩ (.slice T'.a0 d'.jobs.length T'.n0)).setCell ⟨w.heap.size+1,1,none⟩ (.slice T'.a1 d'.released.length T'.n1)).setCell ⟨w.heap.size+1,2,none⟩ (.int .i64 d'.next)).setCell ⟨w.heap.size+1,3,none⟩ (.slice T'.a2 d'.ins.length T'.n2)).setCell ⟨w.heap.size+1,4,none⟩ (.slice T'.a3 d'.taken.length T'.n3)).setCell ⟨w.heap.size+1,5,none⟩ (.slice T'.a4 d'.outs.length T'.n4)).setCell ⟨w.heap.size+1,6,none⟩ (.slice T'.a5 d'.events.length T'.n5))∧W'.heap[w.heap.size+1]?=some (.cells #[.slice T.a0 d.jobs.length T.n0,.slice T.a1 d.released.length T.n1,.int .i64 d.next,.slice T.a2 d.ins.length T.n2,.slice T.a3 d.taken.length T.n3,.slice T.a4 d.outs.length T.n4,.slice T.a5 d.events.length T.n5] 45):=
 have hP:=h.put hO hE
 ⟨⟨h17,_,_,_,_,_,hP.1,(hP.2.2 _ (.inl rfl)).trans x17,(hP.2.2 _ (.inr rfl)).trans x18⟩,hP.2.1⟩
def startT (now:Int) (j:TJob) (d:TDom):TDom:=if j.ran then d else tellOf d now 3 j.task j.number
theorem wof81 (C:Code)(hC:C=stOf (condOf 81)){w:World}{c:TCfg}{S:TCfgS}{b17 b18 g10:Nat}{a:TAct}{d:TDom}{k:List (List TWay)}{j:TJob}{W:World}{m now:Int}(h10:g10=w.heap.size+2)(hW:WmJ w c S b17 b18 a d k j W)(hev:d.events.length+1≤4398046511104)
  {Q:Exit→Act→World→Prop}
  (hQ:∀(NX NV NT NR NP NM NK:Value) (W':World),(WmJ w c S b17 b18 a (startT now j d) k j W')→Q .normal ⟨[KZ,(.int .i64 m),KU,KS,KO,(.int .i64 now),KI,(.pointer (some ⟨w.heap.size,0,none⟩)),Kz,(.pointer (some ⟨w.heap.size+1,0,none⟩)),(.pointer (some ⟨g10,0,none⟩)),Kt,Kr,Ko,Km,Kk,Ki,(.pointer (some ⟨b17,0,none⟩)),(.pointer (some ⟨b18,0,none⟩)),Kc,Ka,K8,K6,K4,K1,LZ,LX,LV,LT,LR,LP,LN,LK,LI,LG,LE,LC,Lz,Lx,Lv,Lt,Lr,Lp,Ln,Ll,Lj,Lh,Lf,Ld,Lb,L6,MY,MW,MU,MS,MQ,MO,MM,MK,MI,MG,ME,MC,MA,My,Mw,Mu,Ms,Mq,Mo,Mm,Mk,Mi,Mg,Me,Mc,Ma,M8,M6,M4,M2,(.bool (!j.ran)),NX,NV,NT,NR,NP,NM,NK,NJ,NH,NF,ND,NB,Nz,Nx,Nv,Nt,Nr,Np,Nn,Nl,Nj,Nh,Nf,Nc,Na,N8,N6,N4,N2,OZ,OX,OV,OT,OR,OP,ON,OL,OJ,OH,OF,OD,OB,Oz,Ox,Ov,Ot,Oo,Om,Ok,Oi,Og,Oe,Oc,Oa,O8,O6,O4,O2,O0,PY,PW,PU,PS,PQ,PO,PM,PK,PI,PG,PE,PC,PA,Py,Pw,Pu,Ps,Pq,Po,Pm,Pj,Ph,Pf,Pd,Pb,P9,P7,P5,P3,P1,QZ,QX,QV,QT,QR,QP,QN,QL,QJ,QH,QF,QD,QB,Qz,Qx,Qv,Qt,Qr,Qp,Qn,Ql,Qj,Qh,Qf,Qd,Qb,Q9,RY,RV,RT,RR,RP,RM,RG,RE,Rz,Rx,Rv,Rt,Rr,Rp,Rl,Rj,Rh,Rf,Rc,Ra,R8,R5,SZ,SX,SV,ST,SR,SP,SN,SL,SJ,SH,SF,SD,SB,Sz,Sw,Su,Ss,Sq,So,Sm,Sj,Sh,Sf,Sd,Sb,S9,S7,S5,TZ,TX,TV,TT,TR,TP,TN,TL,TJ,TH,TF,TD,TB,Tz,Tw,Tu,Ts,Tq,To,Tm,Th,Tf,Td,Tb,UZ,UX,UV,UT,UR,UP,UN,UL,UJ,UH,UF,UD,UB,Uz,Ux,Uv,Ut,Ur,Up,Un,Ul,Uj,Uh,Uf,Ud,Ub,U9,U7,U5,U3,U1,VZ,VX,VV,VT,VR,VP,VN,VL,VJ,VH,VF,VD,VB,Vz,Vx,Vv,Vt,Vr,Vp,Vn,Vl,Vj,Vh,Vf,Vd].toArray,[]⟩ W'):
  Code.wp Try.prog C Q ⟨[KZ,(.int .i64 m),KU,KS,KO,(.int .i64 now),KI,(.pointer (some ⟨w.heap.size,0,none⟩)),Kz,(.pointer (some ⟨w.heap.size+1,0,none⟩)),(.pointer (some ⟨g10,0,none⟩)),Kt,Kr,Ko,Km,Kk,Ki,(.pointer (some ⟨b17,0,none⟩)),(.pointer (some ⟨b18,0,none⟩)),Kc,Ka,K8,K6,K4,K1,LZ,LX,LV,LT,LR,LP,LN,LK,LI,LG,LE,LC,Lz,Lx,Lv,Lt,Lr,Lp,Ln,Ll,Lj,Lh,Lf,Ld,Lb,L6,MY,MW,MU,MS,MQ,MO,MM,MK,MI,MG,ME,MC,MA,My,Mw,Mu,Ms,Mq,Mo,Mm,Mk,Mi,Mg,Me,Mc,Ma,M8,M6,M4,M2,(.bool (!j.ran)),NY,NW,NU,NS,NQ,NO,NL,NJ,NH,NF,ND,NB,Nz,Nx,Nv,Nt,Nr,Np,Nn,Nl,Nj,Nh,Nf,Nc,Na,N8,N6,N4,N2,OZ,OX,OV,OT,OR,OP,ON,OL,OJ,OH,OF,OD,OB,Oz,Ox,Ov,Ot,Oo,Om,Ok,Oi,Og,Oe,Oc,Oa,O8,O6,O4,O2,O0,PY,PW,PU,PS,PQ,PO,PM,PK,PI,PG,PE,PC,PA,Py,Pw,Pu,Ps,Pq,Po,Pm,Pj,Ph,Pf,Pd,Pb,P9,P7,P5,P3,P1,QZ,QX,QV,QT,QR,QP,QN,QL,QJ,QH,QF,QD,QB,Qz,Qx,Qv,Qt,Qr,Qp,Qn,Ql,Qj,Qh,Qf,Qd,Qb,Q9,RY,RV,RT,RR,RP,RM,RG,RE,Rz,Rx,Rv,Rt,Rr,Rp,Rl,Rj,Rh,Rf,Rc,Ra,R8,R5,SZ,SX,SV,ST,SR,SP,SN,SL,SJ,SH,SF,SD,SB,Sz,Sw,Su,Ss,Sq,So,Sm,Sj,Sh,Sf,Sd,Sb,S9,S7,S5,TZ,TX,TV,TT,TR,TP,TN,TL,TJ,TH,TF,TD,TB,Tz,Tw,Tu,Ts,Tq,To,Tm,Th,Tf,Td,Tb,UZ,UX,UV,UT,UR,UP,UN,UL,UJ,UH,UF,UD,UB,Uz,Ux,Uv,Ut,Ur,Up,Un,Ul,Uj,Uh,Uf,Ud,Ub,U9,U7,U5,U3,U1,VZ,VX,VV,VT,VR,VP,VN,VL,VJ,VH,VF,VD,VB,Vz,Vx,Vv,Vt,Vr,Vp,Vn,Vl,Vj,Vh,Vf,Vd].toArray,[]⟩ W:=by
 subst hC
 subst h10
 replace hQ:=zH hQ
 conv=>arg 2;whnf
 have hWJ:=zH hW
 obtain ⟨h17,Gj,Tj,Aj,nj,Fj,hWj,hx17,hx18⟩:=hW
 have hWs:=hWj.size
 have e17:=(hWj.ee b17 (.inl rfl))
 have e18:=(hWj.ee b18 (.inr rfl))
 obtain ⟨cj,fj,zj⟩:=blk hx18
 obtain ⟨ca,fa,za⟩:=blk hx17
 obtain ⟨cd,fd,zd⟩:=blk hWj.dp.blk
 cases hran:j.ran with
 |true=>
  simp only [hran,Bool.not_true] at hQ
  have e1:=zH (show startT now j d=d by unfold startT;rw [hran];rfl)
  clear hWj hx17 hx18
  go_wp2_with fail
  exact hQ.out _ _ _ _ _ _ _ _ (by rw [e1.out];exact hWJ.out)
 |false=>
  simp only [hran,Bool.not_false] at hQ
  have e1:=zH (show startT now j d=tellOf d now 3 j.task j.number by unfold startT;rw [hran];rfl)
  have HT:=zH (fun V (hb:Below W.heap.size W V)=>refTell Gj w.heap.size V d Tj (hWj.ext hb).dp.dom (fun i b hi=>(hWj.dp.apart i b hi).2) (by have:=hb.size;omega) now 3 j.task j.number (by omega))
  have hWjh:=zH hWj
  clear hWj hWJ
  rw [hran] at cj
  go_wp2_with fail
  go_at_call 57
  refine (HT.out _ byB).mono ?_
  rintro e w8 ⟨A8,n8,G8,rfl,hO8,hE8⟩
  have hP:=WmJ.put h17 hWjh.out hx17 hx18 hO8 hE8
  dsimp only at hP
  simp only [List.length_append,List.length_cons,List.length_nil,Nat.zero_add] at hP
  obtain ⟨cx8,fx8,zx8⟩:=blk hP.2
  have hJ8:=zH hP.1
  clear hP hO8 hE8 HT hx17 hx18 cj fj zj ca fa za cd fd zd
  go_wp2_with fail
  exact hQ.out _ _ _ _ _ _ _ _ (by rw [e1.out];exact hJ8.out)
theorem wofR16 (C:Code)(hC:C=stOf (regionNo 16)){w:World}{c:TCfg}{S:TCfgS}{b17 b18 g10:Nat}{a:TAct}{d:TDom}{k:List (List TWay)}{j:TJob}{W:World}{m now:Int}(h10:g10=w.heap.size+2)(hW:WmJ w c S b17 b18 a d k j W)
  {Q:Exit→Act→World→Prop}
  (hQ:∀(NE NC NA Ny Nw Nu Ns:Value) (W':World),(W'=W)→Q .normal ⟨[KZ,(.int .i64 m),KU,KS,KO,KM,KI,(.pointer (some ⟨w.heap.size,0,none⟩)),Kz,(.pointer (some ⟨w.heap.size+1,0,none⟩)),(.pointer (some ⟨g10,0,none⟩)),Kt,Kr,Ko,Km,Kk,Ki,(.pointer (some ⟨b17,0,none⟩)),(.pointer (some ⟨b18,0,none⟩)),Kc,Ka,K8,K6,K4,K1,LZ,LX,LV,LT,LR,LP,LN,LK,LI,LG,LE,LC,Lz,Lx,Lv,Lt,Lr,Lp,Ln,Ll,Lj,Lh,Lf,Ld,Lb,L6,MY,MW,MU,MS,MQ,MO,MM,MK,MI,MG,ME,MC,MA,My,Mw,Mu,Ms,Mq,Mo,Mm,Mk,Mi,Mg,Me,Mc,Ma,M8,M6,M4,M2,M0,NY,NW,NU,NS,NQ,NO,NL,NJ,NH,NE,NC,NA,Ny,Nw,Nu,Ns,.bool (isMem a),Np,Nn,Nl,Nj,Nh,Nf,Nc,Na,N8,N6,N4,N2,OZ,OX,OV,OT,OR,OP,ON,OL,OJ,OH,OF,OD,OB,Oz,Ox,Ov,Ot,Oo,Om,Ok,Oi,Og,Oe,Oc,Oa,O8,O6,O4,O2,O0,PY,PW,PU,PS,PQ,PO,PM,PK,PI,PG,PE,PC,PA,Py,Pw,Pu,Ps,Pq,Po,Pm,Pj,Ph,Pf,Pd,Pb,P9,P7,P5,P3,P1,QZ,QX,QV,QT,QR,QP,QN,QL,QJ,QH,QF,QD,QB,Qz,Qx,Qv,Qt,Qr,Qp,Qn,Ql,Qj,Qh,Qf,Qd,Qb,Q9,RY,RV,RT,RR,RP,RM,RG,RE,Rz,Rx,Rv,Rt,Rr,Rp,Rl,Rj,Rh,Rf,Rc,Ra,R8,R5,SZ,SX,SV,ST,SR,SP,SN,SL,SJ,SH,SF,SD,SB,Sz,Sw,Su,Ss,Sq,So,Sm,Sj,Sh,Sf,Sd,Sb,S9,S7,S5,TZ,TX,TV,TT,TR,TP,TN,TL,TJ,TH,TF,TD,TB,Tz,Tw,Tu,Ts,Tq,To,Tm,Th,Tf,Td,Tb,UZ,UX,UV,UT,UR,UP,UN,UL,UJ,UH,UF,UD,UB,Uz,Ux,Uv,Ut,Ur,Up,Un,Ul,Uj,Uh,Uf,Ud,Ub,U9,U7,U5,U3,U1,VZ,VX,VV,VT,VR,VP,VN,VL,VJ,VH,VF,VD,VB,Vz,Vx,Vv,Vt,Vr,Vp,Vn,Vl,Vj,Vh,Vf,Vd].toArray,[]⟩ W'):
  Code.wp Try.prog C Q ⟨[KZ,(.int .i64 m),KU,KS,KO,KM,KI,(.pointer (some ⟨w.heap.size,0,none⟩)),Kz,(.pointer (some ⟨w.heap.size+1,0,none⟩)),(.pointer (some ⟨g10,0,none⟩)),Kt,Kr,Ko,Km,Kk,Ki,(.pointer (some ⟨b17,0,none⟩)),(.pointer (some ⟨b18,0,none⟩)),Kc,Ka,K8,K6,K4,K1,LZ,LX,LV,LT,LR,LP,LN,LK,LI,LG,LE,LC,Lz,Lx,Lv,Lt,Lr,Lp,Ln,Ll,Lj,Lh,Lf,Ld,Lb,L6,MY,MW,MU,MS,MQ,MO,MM,MK,MI,MG,ME,MC,MA,My,Mw,Mu,Ms,Mq,Mo,Mm,Mk,Mi,Mg,Me,Mc,Ma,M8,M6,M4,M2,M0,NY,NW,NU,NS,NQ,NO,NL,NJ,NH,NF,ND,NB,Nz,Nx,Nv,Nt,Nr,Np,Nn,Nl,Nj,Nh,Nf,Nc,Na,N8,N6,N4,N2,OZ,OX,OV,OT,OR,OP,ON,OL,OJ,OH,OF,OD,OB,Oz,Ox,Ov,Ot,Oo,Om,Ok,Oi,Og,Oe,Oc,Oa,O8,O6,O4,O2,O0,PY,PW,PU,PS,PQ,PO,PM,PK,PI,PG,PE,PC,PA,Py,Pw,Pu,Ps,Pq,Po,Pm,Pj,Ph,Pf,Pd,Pb,P9,P7,P5,P3,P1,QZ,QX,QV,QT,QR,QP,QN,QL,QJ,QH,QF,QD,QB,Qz,Qx,Qv,Qt,Qr,Qp,Qn,Ql,Qj,Qh,Qf,Qd,Qb,Q9,RY,RV,RT,RR,RP,RM,RG,RE,Rz,Rx,Rv,Rt,Rr,Rp,Rl,Rj,Rh,Rf,Rc,Ra,R8,R5,SZ,SX,SV,ST,SR,SP,SN,SL,SJ,SH,SF,SD,SB,Sz,Sw,Su,Ss,Sq,So,Sm,Sj,Sh,Sf,Sd,Sb,S9,S7,S5,TZ,TX,TV,TT,TR,TP,TN,TL,TJ,TH,TF,TD,TB,Tz,Tw,Tu,Ts,Tq,To,Tm,Th,Tf,Td,Tb,UZ,UX,UV,UT,UR,UP,UN,UL,UJ,UH,UF,UD,UB,Uz,Ux,Uv,Ut,Ur,Up,Un,Ul,Uj,Uh,Uf,Ud,Ub,U9,U7,U5,U3,U1,VZ,VX,VV,VT,VR,VP,VN,VL,VJ,VH,VF,VD,VB,Vz,Vx,Vv,Vt,Vr,Vp,Vn,Vl,Vj,Vh,Vf,Vd].toArray,[]⟩ W:=by
 subst hC
 subst h10
 replace hQ:=zH hQ
 conv=>arg 2;whnf
 obtain ⟨h17,Gj,Tj,Aj,nj,Fj,hWj,hx17,hx18⟩:=hW
 have hWs:=hWj.size
 have e17:=(hWj.ee b17 (.inl rfl))
 have e18:=(hWj.ee b18 (.inr rfl))
 obtain ⟨cj,fj,zj⟩:=blk hx18
 obtain ⟨ca,fa,za⟩:=blk hx17
 obtain ⟨cd,fd,zd⟩:=blk hWj.dp.blk
 clear hWj hx18 cj fj zj cd fd zd
 by_cases k2:a.kind=2
 ·have q2:(a.kind==2)=true:=by simpa using k2
  rw [show isMem a=true by simp [isMem,k2]] at hQ
  clear k2
  go_wp2_with fail
  exact hQ.out _ _ _ _ _ _ _ _ rfl
 ·have q2:(a.kind==2)=false:=by simpa using k2
  by_cases k3:a.kind=3
  ·have q3:(a.kind==3)=true:=by simpa using k3
   rw [show isMem a=true by simp [isMem,k3]] at hQ
   clear k2 k3
   go_wp2_with fail
   exact hQ.out _ _ _ _ _ _ _ _ rfl
  ·have q3:(a.kind==3)=false:=by simpa using k3
   rw [show isMem a=false by simp [isMem,k2,k3]] at hQ
   clear k2 k3
   go_wp2_with fail
   exact hQ.out _ _ _ _ _ _ _ _ rfl
theorem wof98 (C:Code)(hC:C=stOf (condOf 98)){w:World}{c:TCfg}{S:TCfgS}{b17 b18 g10:Nat}{a:TAct}{d:TDom}{k:List (List TWay)}{j:TJob}{W:World}{m now:Int}(h10:g10=w.heap.size+2)(hW:WmJ w c S b17 b18 a d k j W)(ok:CacheOk k)(ha:ActOk a)
  {Q:Exit→Act→World→Prop}
  (hQ:∀(No Nm Nk Ni Ng Nd Nb N9 N7 N5:Value) (W':World),(WmJ w c S b17 b18 a d (spendK k a) j W')→Q .normal ⟨[KZ,(.int .i64 m),KU,KS,KO,KM,KI,(.pointer (some ⟨w.heap.size,0,none⟩)),Kz,(.pointer (some ⟨w.heap.size+1,0,none⟩)),(.pointer (some ⟨g10,0,none⟩)),Kt,Kr,Ko,Km,Kk,Ki,(.pointer (some ⟨b17,0,none⟩)),(.pointer (some ⟨b18,0,none⟩)),.int .i64 (spendN k a),Ka,K8,K6,K4,K1,LZ,LX,LV,LT,LR,LP,LN,LK,LI,LG,LE,LC,Lz,Lx,Lv,Lt,Lr,Lp,Ln,Ll,Lj,Lh,Lf,Ld,Lb,L6,MY,MW,MU,MS,MQ,MO,MM,MK,MI,MG,ME,MC,MA,My,Mw,Mu,Ms,Mq,Mo,Mm,Mk,Mi,Mg,Me,Mc,Ma,M8,M6,M4,M2,M0,NY,NW,NU,NS,NQ,NO,NL,NJ,NH,NF,ND,NB,Nz,Nx,Nv,Nt,(.bool (isMem a)),No,Nm,Nk,Ni,Ng,Nd,Nb,N9,N7,N5,N4,N2,OZ,OX,OV,OT,OR,OP,ON,OL,OJ,OH,OF,OD,OB,Oz,Ox,Ov,Ot,Oo,Om,Ok,Oi,Og,Oe,Oc,Oa,O8,O6,O4,O2,O0,PY,PW,PU,PS,PQ,PO,PM,PK,PI,PG,PE,PC,PA,Py,Pw,Pu,Ps,Pq,Po,Pm,Pj,Ph,Pf,Pd,Pb,P9,P7,P5,P3,P1,QZ,QX,QV,QT,QR,QP,QN,QL,QJ,QH,QF,QD,QB,Qz,Qx,Qv,Qt,Qr,Qp,Qn,Ql,Qj,Qh,Qf,Qd,Qb,Q9,RY,RV,RT,RR,RP,RM,RG,RE,Rz,Rx,Rv,Rt,Rr,Rp,Rl,Rj,Rh,Rf,Rc,Ra,R8,R5,SZ,SX,SV,ST,SR,SP,SN,SL,SJ,SH,SF,SD,SB,Sz,Sw,Su,Ss,Sq,So,Sm,Sj,Sh,Sf,Sd,Sb,S9,S7,S5,TZ,TX,TV,TT,TR,TP,TN,TL,TJ,TH,TF,TD,TB,Tz,Tw,Tu,Ts,Tq,To,Tm,Th,Tf,Td,Tb,UZ,UX,UV,UT,UR,UP,UN,UL,UJ,UH,UF,UD,UB,Uz,Ux,Uv,Ut,Ur,Up,Un,Ul,Uj,Uh,Uf,Ud,Ub,U9,U7,U5,U3,U1,VZ,VX,VV,VT,VR,VP,VN,VL,VJ,VH,VF,VD,VB,Vz,Vx,Vv,Vt,Vr,Vp,Vn,Vl,Vj,Vh,Vf,Vd].toArray,[]⟩ W'):
  Code.wp Try.prog C Q ⟨[KZ,(.int .i64 m),KU,KS,KO,KM,KI,(.pointer (some ⟨w.heap.size,0,none⟩)),Kz,(.pointer (some ⟨w.heap.size+1,0,none⟩)),(.pointer (some ⟨g10,0,none⟩)),Kt,Kr,Ko,Km,Kk,Ki,(.pointer (some ⟨b17,0,none⟩)),(.pointer (some ⟨b18,0,none⟩)),(.int .i64 (worstA a)),Ka,K8,K6,K4,K1,LZ,LX,LV,LT,LR,LP,LN,LK,LI,LG,LE,LC,Lz,Lx,Lv,Lt,Lr,Lp,Ln,Ll,Lj,Lh,Lf,Ld,Lb,L6,MY,MW,MU,MS,MQ,MO,MM,MK,MI,MG,ME,MC,MA,My,Mw,Mu,Ms,Mq,Mo,Mm,Mk,Mi,Mg,Me,Mc,Ma,M8,M6,M4,M2,M0,NY,NW,NU,NS,NQ,NO,NL,NJ,NH,NF,ND,NB,Nz,Nx,Nv,Nt,(.bool (isMem a)),Np,Nn,Nl,Nj,Nh,Nf,Nc,Na,N8,N6,N4,N2,OZ,OX,OV,OT,OR,OP,ON,OL,OJ,OH,OF,OD,OB,Oz,Ox,Ov,Ot,Oo,Om,Ok,Oi,Og,Oe,Oc,Oa,O8,O6,O4,O2,O0,PY,PW,PU,PS,PQ,PO,PM,PK,PI,PG,PE,PC,PA,Py,Pw,Pu,Ps,Pq,Po,Pm,Pj,Ph,Pf,Pd,Pb,P9,P7,P5,P3,P1,QZ,QX,QV,QT,QR,QP,QN,QL,QJ,QH,QF,QD,QB,Qz,Qx,Qv,Qt,Qr,Qp,Qn,Ql,Qj,Qh,Qf,Qd,Qb,Q9,RY,RV,RT,RR,RP,RM,RG,RE,Rz,Rx,Rv,Rt,Rr,Rp,Rl,Rj,Rh,Rf,Rc,Ra,R8,R5,SZ,SX,SV,ST,SR,SP,SN,SL,SJ,SH,SF,SD,SB,Sz,Sw,Su,Ss,Sq,So,Sm,Sj,Sh,Sf,Sd,Sb,S9,S7,S5,TZ,TX,TV,TT,TR,TP,TN,TL,TJ,TH,TF,TD,TB,Tz,Tw,Tu,Ts,Tq,To,Tm,Th,Tf,Td,Tb,UZ,UX,UV,UT,UR,UP,UN,UL,UJ,UH,UF,UD,UB,Uz,Ux,Uv,Ut,Ur,Up,Un,Ul,Uj,Uh,Uf,Ud,Ub,U9,U7,U5,U3,U1,VZ,VX,VV,VT,VR,VP,VN,VL,VJ,VH,VF,VD,VB,Vz,Vx,Vv,Vt,Vr,Vp,Vn,Vl,Vj,Vh,Vf,Vd].toArray,[]⟩ W:=by
 subst hC
 subst h10
 replace hQ:=zH hQ
 conv=>arg 2;whnf
 cases hm:isMem a with
 |false=>
  simp only [hm] at hQ
  rw [show spendN k a=worstA a by simp [spendN,hm],show spendK k a=k by simp [spendK,hm]] at hQ
  replace hW:=zH hW
  go_wp2_with fail
  exact hQ.out _ _ _ _ _ _ _ _ _ _ _ hW.out
 |true=>
  simp only [hm] at hQ
  have hln:=ha.line (by simpa [isMem] using hm)
  obtain ⟨h17,Gj,Tj,Aj,nj,Fj,hWj,hx17,hx18⟩:=hW
  have hWs:=hWj.size
  have e17:=(hWj.ee b17 (.inl rfl))
  have e18:=(hWj.ee b18 (.inr rfl))
  obtain ⟨cj,fj,zj⟩:=blk hx18
  obtain ⟨ca,fa,za⟩:=blk hx17
  obtain ⟨cd,fd,zd⟩:=blk hWj.dp.blk
  by_cases k3:a.kind=3
  ·have q3:(a.kind==3)=true:=by simpa using k3
   have hk3:decide (a.kind=3)=true:=by simpa using k3
   have HA:=zH (fun V (hb:Below W.heap.size W V)=>refAccessOf k ok a.n true hln.1 hln.2 Aj nj W.heap.size V hb.size ((hWj.kr.mono fun b hb=>(hWj.ff b hb).1).next (Nat.le_refl _) hb))
   rw [show accessOf k a.n true=spendK k a by simp [spendK,hm,hk3],show accessCost k a.n=spendN k a by simp [spendN,hm]] at HA
   have hWjh:=zH hWj
   have b2:=hWj.kb
   obtain ⟨c2,f2,z2⟩:=blk b2
   clear hWj hk3
   generalize spendN k a=co at*
   generalize spendK k a=k1 at*
   go_wp2_with fail
   go_at_call 29
   refine (HA.out _ byB).mono ?_
   rintro e w8 ⟨A8,n8,rfl,hO8,hb8⟩
   have hP:=hWjh.out.cache hb8 (OSl.read hO8)
   have x2:=(hb8.block _ z2).trans b2
   obtain ⟨cx2,fx2,zx2⟩:=blk x2
   have hJ8:WmJ w c S b17 b18 a d k1 j _:=⟨h17,_,_,_,_,_,hP.1,(hP.2.2 _ (.inl rfl)).trans hx17,(hP.2.2 _ (.inr rfl)).trans hx18⟩
   replace hJ8:=zH hJ8
   clear hP hO8 hx17 hx18 c2 f2
   go_wp2_with fail
   exact hQ.out _ _ _ _ _ _ _ _ _ _ _ hJ8.out
  ·have q3:(a.kind==3)=false:=by simpa using k3
   have hk3:decide (a.kind=3)=false:=by simpa using k3
   have HA:=zH (fun V (hb:Below W.heap.size W V)=>refAccessOf k ok a.n false hln.1 hln.2 Aj nj W.heap.size V hb.size ((hWj.kr.mono fun b hb=>(hWj.ff b hb).1).next (Nat.le_refl _) hb))
   rw [show accessOf k a.n false=spendK k a by simp [spendK,hm,hk3],show accessCost k a.n=spendN k a by simp [spendN,hm]] at HA
   have hWjh:=zH hWj
   have b2:=hWj.kb
   obtain ⟨c2,f2,z2⟩:=blk b2
   clear hWj hk3
   generalize spendN k a=co at*
   generalize spendK k a=k1 at*
   go_wp2_with fail
   go_at_call 29
   refine (HA.out _ byB).mono ?_
   rintro e w8 ⟨A8,n8,rfl,hO8,hb8⟩
   have hP:=hWjh.out.cache hb8 (OSl.read hO8)
   have x2:=(hb8.block _ z2).trans b2
   obtain ⟨cx2,fx2,zx2⟩:=blk x2
   have hJ8:WmJ w c S b17 b18 a d k1 j _:=⟨h17,_,_,_,_,_,hP.1,(hP.2.2 _ (.inl rfl)).trans hx17,(hP.2.2 _ (.inr rfl)).trans hx18⟩
   replace hJ8:=zH hJ8
   clear hP hO8 hx17 hx18 c2 f2
   go_wp2_with fail
   exact hQ.out _ _ _ _ _ _ _ _ _ _ _ hJ8.out
theorem wofR19 (C:Code)(hC:C=stOf (regionNo 19)){w:World}{c:TCfg}{S:TCfgS}{b17 b18 g10:Nat}{a:TAct}{d:TDom}{k:List (List TWay)}{j:TJob}{W:World}{m now:Int}(h10:g10=w.heap.size+2)(hW:WmJ w c S b17 b18 a d k j W)(hnx:0≤d.next∧d.next < 100000)
  {Q:Exit→Act→World→Prop}
  (hQ:∀(OW OU OS OQ:Value) (W':World),(WmJ w c S b17 b18 a {d with next:=d.next+1} k j W')→Q .normal ⟨[KZ,(.int .i64 m),KU,KS,KO,KM,KI,(.pointer (some ⟨w.heap.size,0,none⟩)),Kz,(.pointer (some ⟨w.heap.size+1,0,none⟩)),(.pointer (some ⟨g10,0,none⟩)),Kt,Kr,Ko,Km,Kk,Ki,(.pointer (some ⟨b17,0,none⟩)),(.pointer (some ⟨b18,0,none⟩)),Kc,Ka,K8,K6,K4,K1,LZ,LX,LV,LT,LR,LP,LN,LK,LI,LG,LE,LC,Lz,Lx,Lv,Lt,Lr,Lp,Ln,Ll,Lj,Lh,Lf,Ld,Lb,L6,MY,MW,MU,MS,MQ,MO,MM,MK,MI,MG,ME,MC,MA,My,Mw,Mu,Ms,Mq,Mo,Mm,Mk,Mi,Mg,Me,Mc,Ma,M8,M6,M4,M2,M0,NY,NW,NU,NS,NQ,NO,NL,NJ,NH,NF,ND,NB,Nz,Nx,Nv,Nt,Nr,Np,Nn,Nl,Nj,Nh,Nf,Nc,Na,N8,N6,N4,N2,OZ,OW,OU,OS,OQ,OP,ON,OL,OJ,OH,OF,OD,OB,Oz,Ox,Ov,Ot,Oo,Om,Ok,Oi,Og,Oe,Oc,Oa,O8,O6,O4,O2,O0,PY,PW,PU,PS,PQ,PO,PM,PK,PI,PG,PE,PC,PA,Py,Pw,Pu,Ps,Pq,Po,Pm,Pj,Ph,Pf,Pd,Pb,P9,P7,P5,P3,P1,QZ,QX,QV,QT,QR,QP,QN,QL,QJ,QH,QF,QD,QB,Qz,Qx,Qv,Qt,Qr,Qp,Qn,Ql,Qj,Qh,Qf,Qd,Qb,Q9,RY,RV,RT,RR,RP,RM,RG,RE,Rz,Rx,Rv,Rt,Rr,Rp,Rl,Rj,Rh,Rf,Rc,Ra,R8,R5,SZ,SX,SV,ST,SR,SP,SN,SL,SJ,SH,SF,SD,SB,Sz,Sw,Su,Ss,Sq,So,Sm,Sj,Sh,Sf,Sd,Sb,S9,S7,S5,TZ,TX,TV,TT,TR,TP,TN,TL,TJ,TH,TF,TD,TB,Tz,Tw,Tu,Ts,Tq,To,Tm,Th,Tf,Td,Tb,UZ,UX,UV,UT,UR,UP,UN,UL,UJ,UH,UF,UD,UB,Uz,Ux,Uv,Ut,Ur,Up,Un,Ul,Uj,Uh,Uf,Ud,Ub,U9,U7,U5,U3,U1,VZ,VX,VV,VT,VR,VP,VN,VL,VJ,VH,VF,VD,VB,Vz,Vx,Vv,Vt,Vr,Vp,Vn,Vl,Vj,Vh,Vf,Vd].toArray,[]⟩ W'):
  Code.wp Try.prog C Q ⟨[KZ,(.int .i64 m),KU,KS,KO,KM,KI,(.pointer (some ⟨w.heap.size,0,none⟩)),Kz,(.pointer (some ⟨w.heap.size+1,0,none⟩)),(.pointer (some ⟨g10,0,none⟩)),Kt,Kr,Ko,Km,Kk,Ki,(.pointer (some ⟨b17,0,none⟩)),(.pointer (some ⟨b18,0,none⟩)),Kc,Ka,K8,K6,K4,K1,LZ,LX,LV,LT,LR,LP,LN,LK,LI,LG,LE,LC,Lz,Lx,Lv,Lt,Lr,Lp,Ln,Ll,Lj,Lh,Lf,Ld,Lb,L6,MY,MW,MU,MS,MQ,MO,MM,MK,MI,MG,ME,MC,MA,My,Mw,Mu,Ms,Mq,Mo,Mm,Mk,Mi,Mg,Me,Mc,Ma,M8,M6,M4,M2,M0,NY,NW,NU,NS,NQ,NO,NL,NJ,NH,NF,ND,NB,Nz,Nx,Nv,Nt,Nr,Np,Nn,Nl,Nj,Nh,Nf,Nc,Na,N8,N6,N4,N2,OZ,OX,OV,OT,OR,OP,ON,OL,OJ,OH,OF,OD,OB,Oz,Ox,Ov,Ot,Oo,Om,Ok,Oi,Og,Oe,Oc,Oa,O8,O6,O4,O2,O0,PY,PW,PU,PS,PQ,PO,PM,PK,PI,PG,PE,PC,PA,Py,Pw,Pu,Ps,Pq,Po,Pm,Pj,Ph,Pf,Pd,Pb,P9,P7,P5,P3,P1,QZ,QX,QV,QT,QR,QP,QN,QL,QJ,QH,QF,QD,QB,Qz,Qx,Qv,Qt,Qr,Qp,Qn,Ql,Qj,Qh,Qf,Qd,Qb,Q9,RY,RV,RT,RR,RP,RM,RG,RE,Rz,Rx,Rv,Rt,Rr,Rp,Rl,Rj,Rh,Rf,Rc,Ra,R8,R5,SZ,SX,SV,ST,SR,SP,SN,SL,SJ,SH,SF,SD,SB,Sz,Sw,Su,Ss,Sq,So,Sm,Sj,Sh,Sf,Sd,Sb,S9,S7,S5,TZ,TX,TV,TT,TR,TP,TN,TL,TJ,TH,TF,TD,TB,Tz,Tw,Tu,Ts,Tq,To,Tm,Th,Tf,Td,Tb,UZ,UX,UV,UT,UR,UP,UN,UL,UJ,UH,UF,UD,UB,Uz,Ux,Uv,Ut,Ur,Up,Un,Ul,Uj,Uh,Uf,Ud,Ub,U9,U7,U5,U3,U1,VZ,VX,VV,VT,VR,VP,VN,VL,VJ,VH,VF,VD,VB,Vz,Vx,Vv,Vt,Vr,Vp,Vn,Vl,Vj,Vh,Vf,Vd].toArray,[]⟩ W:=by
 subst hC
 subst h10
 replace hQ:=zH hQ
 conv=>arg 2;whnf
 obtain ⟨h17,Gj,Tj,Aj,nj,Fj,hWj,hx17,hx18⟩:=hW
 have hWs:=hWj.size
 have e17:=(hWj.ee b17 (.inl rfl))
 have e18:=(hWj.ee b18 (.inr rfl))
 obtain ⟨cj,fj,zj⟩:=blk hx18
 obtain ⟨ca,fa,za⟩:=blk hx17
 obtain ⟨cd,fd,zd⟩:=blk hWj.dp.blk
 have hN:=hWj.next (d.next+1)
 have hJ8:WmJ w c S b17 b18 a {d with next:=d.next+1} k j _:=⟨h17,_,_,_,_,_,hN.1,(hN.2 _ (.inl rfl)).trans hx17,(hN.2 _ (.inr rfl)).trans hx18⟩
 replace hJ8:=zH hJ8
 obtain ⟨x0,x1⟩:=hnx
 clear hN hWj hx17 hx18
 go_wp2_with fail
 exact hQ.out _ _ _ _ _ hJ8.out
theorem wofR20 (C:Code)(hC:C=stOf (regionNo 20)){w:World}{c:TCfg}{S:TCfgS}{b17 b18 g10:Nat}{a:TAct}{d:TDom}{k:List (List TWay)}{j:TJob}{W:World}{m now:Int}(h10:g10=w.heap.size+2)(hW:WmJ w c S b17 b18 a d k j W)
  {Q:Exit→Act→World→Prop}
  (hQ:∀(OO:Value) (W':World),(WmJ w c S b17 b18 a d k {j with ran:=true} W')→Q .normal ⟨[KZ,(.int .i64 m),KU,KS,KO,KM,KI,(.pointer (some ⟨w.heap.size,0,none⟩)),Kz,(.pointer (some ⟨w.heap.size+1,0,none⟩)),(.pointer (some ⟨g10,0,none⟩)),Kt,Kr,Ko,Km,Kk,Ki,(.pointer (some ⟨b17,0,none⟩)),(.pointer (some ⟨b18,0,none⟩)),Kc,Ka,K8,K6,K4,K1,LZ,LX,LV,LT,LR,LP,LN,LK,LI,LG,LE,LC,Lz,Lx,Lv,Lt,Lr,Lp,Ln,Ll,Lj,Lh,Lf,Ld,Lb,L6,MY,MW,MU,MS,MQ,MO,MM,MK,MI,MG,ME,MC,MA,My,Mw,Mu,Ms,Mq,Mo,Mm,Mk,Mi,Mg,Me,Mc,Ma,M8,M6,M4,M2,M0,NY,NW,NU,NS,NQ,NO,NL,NJ,NH,NF,ND,NB,Nz,Nx,Nv,Nt,Nr,Np,Nn,Nl,Nj,Nh,Nf,Nc,Na,N8,N6,N4,N2,OZ,OX,OV,OT,OR,OO,ON,OL,OJ,OH,OF,OD,OB,Oz,Ox,Ov,Ot,Oo,Om,Ok,Oi,Og,Oe,Oc,Oa,O8,O6,O4,O2,O0,PY,PW,PU,PS,PQ,PO,PM,PK,PI,PG,PE,PC,PA,Py,Pw,Pu,Ps,Pq,Po,Pm,Pj,Ph,Pf,Pd,Pb,P9,P7,P5,P3,P1,QZ,QX,QV,QT,QR,QP,QN,QL,QJ,QH,QF,QD,QB,Qz,Qx,Qv,Qt,Qr,Qp,Qn,Ql,Qj,Qh,Qf,Qd,Qb,Q9,RY,RV,RT,RR,RP,RM,RG,RE,Rz,Rx,Rv,Rt,Rr,Rp,Rl,Rj,Rh,Rf,Rc,Ra,R8,R5,SZ,SX,SV,ST,SR,SP,SN,SL,SJ,SH,SF,SD,SB,Sz,Sw,Su,Ss,Sq,So,Sm,Sj,Sh,Sf,Sd,Sb,S9,S7,S5,TZ,TX,TV,TT,TR,TP,TN,TL,TJ,TH,TF,TD,TB,Tz,Tw,Tu,Ts,Tq,To,Tm,Th,Tf,Td,Tb,UZ,UX,UV,UT,UR,UP,UN,UL,UJ,UH,UF,UD,UB,Uz,Ux,Uv,Ut,Ur,Up,Un,Ul,Uj,Uh,Uf,Ud,Ub,U9,U7,U5,U3,U1,VZ,VX,VV,VT,VR,VP,VN,VL,VJ,VH,VF,VD,VB,Vz,Vx,Vv,Vt,Vr,Vp,Vn,Vl,Vj,Vh,Vf,Vd].toArray,[]⟩ W'):
  Code.wp Try.prog C Q ⟨[KZ,(.int .i64 m),KU,KS,KO,KM,KI,(.pointer (some ⟨w.heap.size,0,none⟩)),Kz,(.pointer (some ⟨w.heap.size+1,0,none⟩)),(.pointer (some ⟨g10,0,none⟩)),Kt,Kr,Ko,Km,Kk,Ki,(.pointer (some ⟨b17,0,none⟩)),(.pointer (some ⟨b18,0,none⟩)),Kc,Ka,K8,K6,K4,K1,LZ,LX,LV,LT,LR,LP,LN,LK,LI,LG,LE,LC,Lz,Lx,Lv,Lt,Lr,Lp,Ln,Ll,Lj,Lh,Lf,Ld,Lb,L6,MY,MW,MU,MS,MQ,MO,MM,MK,MI,MG,ME,MC,MA,My,Mw,Mu,Ms,Mq,Mo,Mm,Mk,Mi,Mg,Me,Mc,Ma,M8,M6,M4,M2,M0,NY,NW,NU,NS,NQ,NO,NL,NJ,NH,NF,ND,NB,Nz,Nx,Nv,Nt,Nr,Np,Nn,Nl,Nj,Nh,Nf,Nc,Na,N8,N6,N4,N2,OZ,OX,OV,OT,OR,OP,ON,OL,OJ,OH,OF,OD,OB,Oz,Ox,Ov,Ot,Oo,Om,Ok,Oi,Og,Oe,Oc,Oa,O8,O6,O4,O2,O0,PY,PW,PU,PS,PQ,PO,PM,PK,PI,PG,PE,PC,PA,Py,Pw,Pu,Ps,Pq,Po,Pm,Pj,Ph,Pf,Pd,Pb,P9,P7,P5,P3,P1,QZ,QX,QV,QT,QR,QP,QN,QL,QJ,QH,QF,QD,QB,Qz,Qx,Qv,Qt,Qr,Qp,Qn,Ql,Qj,Qh,Qf,Qd,Qb,Q9,RY,RV,RT,RR,RP,RM,RG,RE,Rz,Rx,Rv,Rt,Rr,Rp,Rl,Rj,Rh,Rf,Rc,Ra,R8,R5,SZ,SX,SV,ST,SR,SP,SN,SL,SJ,SH,SF,SD,SB,Sz,Sw,Su,Ss,Sq,So,Sm,Sj,Sh,Sf,Sd,Sb,S9,S7,S5,TZ,TX,TV,TT,TR,TP,TN,TL,TJ,TH,TF,TD,TB,Tz,Tw,Tu,Ts,Tq,To,Tm,Th,Tf,Td,Tb,UZ,UX,UV,UT,UR,UP,UN,UL,UJ,UH,UF,UD,UB,Uz,Ux,Uv,Ut,Ur,Up,Un,Ul,Uj,Uh,Uf,Ud,Ub,U9,U7,U5,U3,U1,VZ,VX,VV,VT,VR,VP,VN,VL,VJ,VH,VF,VD,VB,Vz,Vx,Vv,Vt,Vr,Vp,Vn,Vl,Vj,Vh,Vf,Vd].toArray,[]⟩ W:=by
 subst hC
 subst h10
 replace hQ:=zH hQ
 conv=>arg 2;whnf
 obtain ⟨h17,Gj,Tj,Aj,nj,Fj,hWj,hx17,hx18⟩:=hW
 have hWs:=hWj.size
 have e17:=(hWj.ee b17 (.inl rfl))
 have e18:=(hWj.ee b18 (.inr rfl))
 obtain ⟨cj,fj,zj⟩:=blk hx18
 obtain ⟨ca,fa,za⟩:=blk hx17
 obtain ⟨cd,fd,zd⟩:=blk hWj.dp.blk
 have hN:=hWj.set (.inr rfl:b18=b17∨b18=b18) 4 (.bool true)
 have x18:=heap_set_same (i:=4) (u:= .bool true) hx18
 have hJ8:WmJ w c S b17 b18 a d k {j with ran:=true} _:=⟨h17,_,_,_,_,_,hN.1,(hN.2 b17 h17).trans hx17,by simpa using x18⟩
 replace hJ8:=zH hJ8
 clear hN hWj hx17 hx18 x18
 go_wp2_with fail
 exact hQ.out _ _ hJ8.out
theorem wofR21 (C:Code)(hC:C=stOf (regionNo 21)){w:World}{c:TCfg}{S:TCfgS}{b17 b18 g10:Nat}{a:TAct}{d:TDom}{k:List (List TWay)}{j:TJob}{W:World}{m now:Int}{co:Int}(h10:g10=w.heap.size+2)(hW:WmJ w c S b17 b18 a d k j W)(hu:0≤j.used∧j.used≤100000)(hco:0≤co∧co≤100000)
  {Q:Exit→Act→World→Prop}
  (hQ:∀(OM OK OI OG OE:Value) (W':World),(WmJ w c S b17 b18 a d k {j with used:=j.used+co} W')→Q .normal ⟨[KZ,(.int .i64 m),KU,KS,KO,KM,KI,(.pointer (some ⟨w.heap.size,0,none⟩)),Kz,(.pointer (some ⟨w.heap.size+1,0,none⟩)),(.pointer (some ⟨g10,0,none⟩)),Kt,Kr,Ko,Km,Kk,Ki,(.pointer (some ⟨b17,0,none⟩)),(.pointer (some ⟨b18,0,none⟩)),(.int .i64 co),Ka,K8,K6,K4,K1,LZ,LX,LV,LT,LR,LP,LN,LK,LI,LG,LE,LC,Lz,Lx,Lv,Lt,Lr,Lp,Ln,Ll,Lj,Lh,Lf,Ld,Lb,L6,MY,MW,MU,MS,MQ,MO,MM,MK,MI,MG,ME,MC,MA,My,Mw,Mu,Ms,Mq,Mo,Mm,Mk,Mi,Mg,Me,Mc,Ma,M8,M6,M4,M2,M0,NY,NW,NU,NS,NQ,NO,NL,NJ,NH,NF,ND,NB,Nz,Nx,Nv,Nt,Nr,Np,Nn,Nl,Nj,Nh,Nf,Nc,Na,N8,N6,N4,N2,OZ,OX,OV,OT,OR,OP,OM,OK,OI,OG,OE,OD,OB,Oz,Ox,Ov,Ot,Oo,Om,Ok,Oi,Og,Oe,Oc,Oa,O8,O6,O4,O2,O0,PY,PW,PU,PS,PQ,PO,PM,PK,PI,PG,PE,PC,PA,Py,Pw,Pu,Ps,Pq,Po,Pm,Pj,Ph,Pf,Pd,Pb,P9,P7,P5,P3,P1,QZ,QX,QV,QT,QR,QP,QN,QL,QJ,QH,QF,QD,QB,Qz,Qx,Qv,Qt,Qr,Qp,Qn,Ql,Qj,Qh,Qf,Qd,Qb,Q9,RY,RV,RT,RR,RP,RM,RG,RE,Rz,Rx,Rv,Rt,Rr,Rp,Rl,Rj,Rh,Rf,Rc,Ra,R8,R5,SZ,SX,SV,ST,SR,SP,SN,SL,SJ,SH,SF,SD,SB,Sz,Sw,Su,Ss,Sq,So,Sm,Sj,Sh,Sf,Sd,Sb,S9,S7,S5,TZ,TX,TV,TT,TR,TP,TN,TL,TJ,TH,TF,TD,TB,Tz,Tw,Tu,Ts,Tq,To,Tm,Th,Tf,Td,Tb,UZ,UX,UV,UT,UR,UP,UN,UL,UJ,UH,UF,UD,UB,Uz,Ux,Uv,Ut,Ur,Up,Un,Ul,Uj,Uh,Uf,Ud,Ub,U9,U7,U5,U3,U1,VZ,VX,VV,VT,VR,VP,VN,VL,VJ,VH,VF,VD,VB,Vz,Vx,Vv,Vt,Vr,Vp,Vn,Vl,Vj,Vh,Vf,Vd].toArray,[]⟩ W'):
  Code.wp Try.prog C Q ⟨[KZ,(.int .i64 m),KU,KS,KO,KM,KI,(.pointer (some ⟨w.heap.size,0,none⟩)),Kz,(.pointer (some ⟨w.heap.size+1,0,none⟩)),(.pointer (some ⟨g10,0,none⟩)),Kt,Kr,Ko,Km,Kk,Ki,(.pointer (some ⟨b17,0,none⟩)),(.pointer (some ⟨b18,0,none⟩)),(.int .i64 co),Ka,K8,K6,K4,K1,LZ,LX,LV,LT,LR,LP,LN,LK,LI,LG,LE,LC,Lz,Lx,Lv,Lt,Lr,Lp,Ln,Ll,Lj,Lh,Lf,Ld,Lb,L6,MY,MW,MU,MS,MQ,MO,MM,MK,MI,MG,ME,MC,MA,My,Mw,Mu,Ms,Mq,Mo,Mm,Mk,Mi,Mg,Me,Mc,Ma,M8,M6,M4,M2,M0,NY,NW,NU,NS,NQ,NO,NL,NJ,NH,NF,ND,NB,Nz,Nx,Nv,Nt,Nr,Np,Nn,Nl,Nj,Nh,Nf,Nc,Na,N8,N6,N4,N2,OZ,OX,OV,OT,OR,OP,ON,OL,OJ,OH,OF,OD,OB,Oz,Ox,Ov,Ot,Oo,Om,Ok,Oi,Og,Oe,Oc,Oa,O8,O6,O4,O2,O0,PY,PW,PU,PS,PQ,PO,PM,PK,PI,PG,PE,PC,PA,Py,Pw,Pu,Ps,Pq,Po,Pm,Pj,Ph,Pf,Pd,Pb,P9,P7,P5,P3,P1,QZ,QX,QV,QT,QR,QP,QN,QL,QJ,QH,QF,QD,QB,Qz,Qx,Qv,Qt,Qr,Qp,Qn,Ql,Qj,Qh,Qf,Qd,Qb,Q9,RY,RV,RT,RR,RP,RM,RG,RE,Rz,Rx,Rv,Rt,Rr,Rp,Rl,Rj,Rh,Rf,Rc,Ra,R8,R5,SZ,SX,SV,ST,SR,SP,SN,SL,SJ,SH,SF,SD,SB,Sz,Sw,Su,Ss,Sq,So,Sm,Sj,Sh,Sf,Sd,Sb,S9,S7,S5,TZ,TX,TV,TT,TR,TP,TN,TL,TJ,TH,TF,TD,TB,Tz,Tw,Tu,Ts,Tq,To,Tm,Th,Tf,Td,Tb,UZ,UX,UV,UT,UR,UP,UN,UL,UJ,UH,UF,UD,UB,Uz,Ux,Uv,Ut,Ur,Up,Un,Ul,Uj,Uh,Uf,Ud,Ub,U9,U7,U5,U3,U1,VZ,VX,VV,VT,VR,VP,VN,VL,VJ,VH,VF,VD,VB,Vz,Vx,Vv,Vt,Vr,Vp,Vn,Vl,Vj,Vh,Vf,Vd].toArray,[]⟩ W:=by
 subst hC
 subst h10
 replace hQ:=zH hQ
 conv=>arg 2;whnf
 obtain ⟨h17,Gj,Tj,Aj,nj,Fj,hWj,hx17,hx18⟩:=hW
 have hWs:=hWj.size
 have e17:=(hWj.ee b17 (.inl rfl))
 have e18:=(hWj.ee b18 (.inr rfl))
 obtain ⟨cj,fj,zj⟩:=blk hx18
 obtain ⟨ca,fa,za⟩:=blk hx17
 obtain ⟨cd,fd,zd⟩:=blk hWj.dp.blk
 have hN:=hWj.set (.inr rfl:b18=b17∨b18=b18) 3 (.int .i64 (j.used+co))
 have x18:=heap_set_same (i:=3) (u:= .int .i64 (j.used+co)) hx18
 have hJ8:WmJ w c S b17 b18 a d k {j with used:=j.used+co} _:=⟨h17,_,_,_,_,_,hN.1,(hN.2 b17 h17).trans hx17,by simpa using x18⟩
 replace hJ8:=zH hJ8
 obtain ⟨y0,y1⟩:=hu
 obtain ⟨y2,y3⟩:=hco
 clear hN hWj hx17 hx18 x18
 go_wp2_with fail
 exact hQ.out _ _ _ _ _ _ hJ8.out
theorem wofR22 (C:Code)(hC:C=stOf (regionNo 22)){w:World}{c:TCfg}{S:TCfgS}{b17 b18 g10:Nat}{a:TAct}{d:TDom}{k:List (List TWay)}{j:TJob}{W:World}{m now:Int}{bi:Nat}(h10:g10=w.heap.size+2)(hW:WmJ w c S b17 b18 a d k j W)(hi:bi < d.jobs.length)
  {Q:Exit→Act→World→Prop}
  (hQ:∀(OC OA Oy Ow Ou:Value) (W':World),(WmJ w c S b17 b18 a {d with jobs:=d.jobs.set bi j} k j W')→Q .normal ⟨(KZ::(.int .i64 m)::KU::KS::KO::KM::KI::(.pointer (some ⟨w.heap.size,0,none⟩))::Kz::(.pointer (some ⟨w.heap.size+1,0,none⟩))::(.pointer (some ⟨g10,0,none⟩))::Kt::Kr::Ko::Km::Kk::(.int .i64 (bi:Nat))::(.pointer (some ⟨b17,0,none⟩))::(.pointer (some ⟨b18,0,none⟩))::Kc::Ka::K8::K6::K4::K1::LZ::LX::LV::LT::LR::LP::LN::LK::LI::LG::LE::LC::Lz::Lx::Lv::Lt::Lr::Lp::Ln::Ll::Lj::Lh::Lf::Ld::Lb::L6::MY::MW::MU::MS::MQ::MO::MM::MK::MI::MG::ME::MC::MA::My::Mw::Mu::Ms::Mq::Mo::Mm::Mk::Mi::Mg::Me::Mc::Ma::M8::M6::M4::M2::M0::NY::NW::NU::NS::NQ::NO::NL::NJ::NH::NF::ND::NB::Nz::Nx::Nv::Nt::Nr::Np::Nn::Nl::Nj::Nh::Nf::Nc::Na::N8::N6::N4::N2::OZ::OX::OV::OT::OR::OP::ON::OL::OJ::OH::OF::OC::OA::Oy::Ow::Ou::Ot::Oo::Om::Ok::Oi::Og::Oe::Oc::Oa::O8::O6::O4::O2::O0::PY::PW::PU::PS::PQ::PO::PM::PK::PI::PG::PE::PC::PA::Py::Pw::Pu::Ps::Pq::Po::Pm::Pj::Ph::Pf::Pd::Pb::P9::P7::P5::P3::P1::QZ::QX::QV::QT::QR::QP::QN::QL::QJ::QH::QF::QD::QB::Qz::Qx::Qv::Qt::Qr::Qp::Qn::Ql::Qj::Qh::Qf::Qd::Qb::Q9::RY::RV::RT::RR::RP::RM::RG::RE::Rz::Rx::Rv::Rt::Rr::Rp::Rl::Rj::Rh::Rf::Rc::Ra::R8::R5::SZ::SX::SV::ST::SR::SP::SN::SL::SJ::SH::SF::SD::SB::Sz::Sw::Su::Ss::Sq::So::Sm::Sj::Sh::Sf::Sd::Sb::S9::S7::S5::TZ::TX::TV::TT::TR::TP::TN::TL::TJ::TH::TF::TD::TB::Tz::Tw::Tu::Ts::Tq::To::Tm::Th::Tf::Td::Tb::UZ::UX::UV::UT::UR::UP::UN::UL::UJ::UH::UF::UD::UB::Uz::Ux::Uv::Ut::Ur::Up::Un::Ul::Uj::Uh::Uf::Ud::Ub::U9::U7::U5::U3::U1::VZ::VX::VV::VT::VR::VP::VN::VL::VJ::VH::VF::VD::VB::Vz::Vx::Vv::Vt::Vr::Vp::Vn::Vl::Vj::Vh::Vf::Vd::[]).toArray,[]⟩ W'):
  Code.wp Try.prog C Q ⟨(KZ::(.int .i64 m)::KU::KS::KO::KM::KI::(.pointer (some ⟨w.heap.size,0,none⟩))::Kz::(.pointer (some ⟨w.heap.size+1,0,none⟩))::(.pointer (some ⟨g10,0,none⟩))::Kt::Kr::Ko::Km::Kk::(.int .i64 (bi:Nat))::(.pointer (some ⟨b17,0,none⟩))::(.pointer (some ⟨b18,0,none⟩))::Kc::Ka::K8::K6::K4::K1::LZ::LX::LV::LT::LR::LP::LN::LK::LI::LG::LE::LC::Lz::Lx::Lv::Lt::Lr::Lp::Ln::Ll::Lj::Lh::Lf::Ld::Lb::L6::MY::MW::MU::MS::MQ::MO::MM::MK::MI::MG::ME::MC::MA::My::Mw::Mu::Ms::Mq::Mo::Mm::Mk::Mi::Mg::Me::Mc::Ma::M8::M6::M4::M2::M0::NY::NW::NU::NS::NQ::NO::NL::NJ::NH::NF::ND::NB::Nz::Nx::Nv::Nt::Nr::Np::Nn::Nl::Nj::Nh::Nf::Nc::Na::N8::N6::N4::N2::OZ::OX::OV::OT::OR::OP::ON::OL::OJ::OH::OF::OD::OB::Oz::Ox::Ov::Ot::Oo::Om::Ok::Oi::Og::Oe::Oc::Oa::O8::O6::O4::O2::O0::PY::PW::PU::PS::PQ::PO::PM::PK::PI::PG::PE::PC::PA::Py::Pw::Pu::Ps::Pq::Po::Pm::Pj::Ph::Pf::Pd::Pb::P9::P7::P5::P3::P1::QZ::QX::QV::QT::QR::QP::QN::QL::QJ::QH::QF::QD::QB::Qz::Qx::Qv::Qt::Qr::Qp::Qn::Ql::Qj::Qh::Qf::Qd::Qb::Q9::RY::RV::RT::RR::RP::RM::RG::RE::Rz::Rx::Rv::Rt::Rr::Rp::Rl::Rj::Rh::Rf::Rc::Ra::R8::R5::SZ::SX::SV::ST::SR::SP::SN::SL::SJ::SH::SF::SD::SB::Sz::Sw::Su::Ss::Sq::So::Sm::Sj::Sh::Sf::Sd::Sb::S9::S7::S5::TZ::TX::TV::TT::TR::TP::TN::TL::TJ::TH::TF::TD::TB::Tz::Tw::Tu::Ts::Tq::To::Tm::Th::Tf::Td::Tb::UZ::UX::UV::UT::UR::UP::UN::UL::UJ::UH::UF::UD::UB::Uz::Ux::Uv::Ut::Ur::Up::Un::Ul::Uj::Uh::Uf::Ud::Ub::U9::U7::U5::U3::U1::VZ::VX::VV::VT::VR::VP::VN::VL::VJ::VH::VF::VD::VB::Vz::Vx::Vv::Vt::Vr::Vp::Vn::Vl::Vj::Vh::Vf::Vd::[]).toArray,[]⟩ W:=by
 subst hC
 subst h10
 replace hQ:=zH hQ
 conv=>arg 2;whnf
 obtain ⟨h17,Gj,Tj,Aj,nj,Fj,hWj,hx17,hx18⟩:=hW
 have hWs:=hWj.size
 have e17:=(hWj.ee b17 (.inl rfl))
 have e18:=(hWj.ee b18 (.inr rfl))
 obtain ⟨cj,fj,zj⟩:=blk hx18
 obtain ⟨ca,fa,za⟩:=blk hx17
 obtain ⟨cd,fd,zd⟩:=blk hWj.dp.blk
 obtain ⟨gj,ej,_,hgj,hgne,hjc,hjf,hset⟩:=hWj.job hi
 have hN:=hset j
 have hJ8:WmJ w c S b17 b18 a {d with jobs:=d.jobs.set bi j} k j _:=⟨h17,_,_,_,_,_,hN.1,(hN.2 _ (.inl rfl)).trans hx17,(hN.2 _ (.inr rfl)).trans hx18⟩
 replace hJ8:=zH hJ8
 have j0:W.cell? ⟨gj,bi*6,none⟩=some (.int .i64 (nth d.jobs bi).task):=hjc 0 _ rfl
 have j1:=hjc 1 _ rfl
 have j2:=hjc 2 _ rfl
 have j3:=hjc 3 _ rfl
 have j4:=hjc 4 _ rfl
 have j5:=hjc 5 _ rfl
 have i0:(0:Int)≤(bi:Int):=by omega
 have i1:(bi:Int) < d.jobs.length:=by omega
 have bd:=hWj.dp.blk
 rw [ej] at bd
 obtain ⟨cd2,fd2,zd2⟩:=blk bd
 clear hN hset hjc hWj hx17 hx18 cd ca
 go_wp2_with fail
 exact hQ.out _ _ _ _ _ _ hJ8.out
theorem wofB2 (C:Code)(hC:C=stOf (blockNo 2)){w:World}{c:TCfg}{S:TCfgS}{b17 b18 g10:Nat}{a:TAct}{d:TDom}{k:List (List TWay)}{j:TJob}{W:World}{m now:Int}(h10:g10=w.heap.size+2)(hW:WmJ w c S b17 b18 a d k j W)(hc:CfgOk c)(ha:ActOk a)
  {Q:Exit→Act→World→Prop}
  (hQ:∀(Ol Oj Oh Of Od Ob O9 O7 O5 O3 O1 PZ PX PV PT PR PP PN PL PJ PH PF PD PB Pz Px Pv Pt Pr Pp Pn Pk Pi Pg Pe Pc Pa P8 P6 P4 P2 P0 QY QW QU QS QQ QO QM QK QI QG QE QC QA Qy:Value) (W':World),(W'=W)→Q .normal ⟨[KZ,(.int .i64 m),KU,KS,KO,KM,KI,(.pointer (some ⟨w.heap.size,0,none⟩)),Kz,(.pointer (some ⟨w.heap.size+1,0,none⟩)),(.pointer (some ⟨g10,0,none⟩)),Kt,Kr,Ko,Km,Kk,Ki,(.pointer (some ⟨b17,0,none⟩)),(.pointer (some ⟨b18,0,none⟩)),Kc,.bool (!refusedA c m a),K8,K6,K4,K1,LZ,LX,LV,LT,LR,LP,LN,LK,LI,LG,LE,LC,Lz,Lx,Lv,Lt,Lr,Lp,Ln,Ll,Lj,Lh,Lf,Ld,Lb,L6,MY,MW,MU,MS,MQ,MO,MM,MK,MI,MG,ME,MC,MA,My,Mw,Mu,Ms,Mq,Mo,Mm,Mk,Mi,Mg,Me,Mc,Ma,M8,M6,M4,M2,M0,NY,NW,NU,NS,NQ,NO,NL,NJ,NH,NF,ND,NB,Nz,Nx,Nv,Nt,Nr,Np,Nn,Nl,Nj,Nh,Nf,Nc,Na,N8,N6,N4,N2,OZ,OX,OV,OT,OR,OP,ON,OL,OJ,OH,OF,OD,OB,Oz,Ox,Ov,Ot,(.int .i64 a.kind),Ol,Oj,Oh,Of,Od,Ob,O9,O7,O5,O3,O1,PZ,PX,PV,PT,PR,PP,PN,PL,PJ,PH,PF,PD,PB,Pz,Px,Pv,Pt,Pr,Pp,Pn,Pk,Pi,Pg,Pe,Pc,Pa,P8,P6,P4,P2,P0,QY,QW,QU,QS,QQ,QO,QM,QK,QI,QG,QE,QC,QA,Qy,Qx,Qv,Qt,Qr,Qp,Qn,Ql,Qj,Qh,Qf,Qd,Qb,Q9,RY,RV,RT,RR,RP,RM,RG,RE,Rz,Rx,Rv,Rt,Rr,Rp,Rl,Rj,Rh,Rf,Rc,Ra,R8,R5,SZ,SX,SV,ST,SR,SP,SN,SL,SJ,SH,SF,SD,SB,Sz,Sw,Su,Ss,Sq,So,Sm,Sj,Sh,Sf,Sd,Sb,S9,S7,S5,TZ,TX,TV,TT,TR,TP,TN,TL,TJ,TH,TF,TD,TB,Tz,Tw,Tu,Ts,Tq,To,Tm,Th,Tf,Td,Tb,UZ,UX,UV,UT,UR,UP,UN,UL,UJ,UH,UF,UD,UB,Uz,Ux,Uv,Ut,Ur,Up,Un,Ul,Uj,Uh,Uf,Ud,Ub,U9,U7,U5,U3,U1,VZ,VX,VV,VT,VR,VP,VN,VL,VJ,VH,VF,VD,VB,Vz,Vx,Vv,Vt,Vr,Vp,Vn,Vl,Vj,Vh,Vf,Vd].toArray,[]⟩ W'):
  Code.wp Try.prog C Q ⟨[KZ,(.int .i64 m),KU,KS,KO,KM,KI,(.pointer (some ⟨w.heap.size,0,none⟩)),Kz,(.pointer (some ⟨w.heap.size+1,0,none⟩)),(.pointer (some ⟨g10,0,none⟩)),Kt,Kr,Ko,Km,Kk,Ki,(.pointer (some ⟨b17,0,none⟩)),(.pointer (some ⟨b18,0,none⟩)),Kc,(.bool true),K8,K6,K4,K1,LZ,LX,LV,LT,LR,LP,LN,LK,LI,LG,LE,LC,Lz,Lx,Lv,Lt,Lr,Lp,Ln,Ll,Lj,Lh,Lf,Ld,Lb,L6,MY,MW,MU,MS,MQ,MO,MM,MK,MI,MG,ME,MC,MA,My,Mw,Mu,Ms,Mq,Mo,Mm,Mk,Mi,Mg,Me,Mc,Ma,M8,M6,M4,M2,M0,NY,NW,NU,NS,NQ,NO,NL,NJ,NH,NF,ND,NB,Nz,Nx,Nv,Nt,Nr,Np,Nn,Nl,Nj,Nh,Nf,Nc,Na,N8,N6,N4,N2,OZ,OX,OV,OT,OR,OP,ON,OL,OJ,OH,OF,OD,OB,Oz,Ox,Ov,Ot,(.int .i64 a.kind),Om,Ok,Oi,Og,Oe,Oc,Oa,O8,O6,O4,O2,O0,PY,PW,PU,PS,PQ,PO,PM,PK,PI,PG,PE,PC,PA,Py,Pw,Pu,Ps,Pq,Po,Pm,Pj,Ph,Pf,Pd,Pb,P9,P7,P5,P3,P1,QZ,QX,QV,QT,QR,QP,QN,QL,QJ,QH,QF,QD,QB,Qz,Qx,Qv,Qt,Qr,Qp,Qn,Ql,Qj,Qh,Qf,Qd,Qb,Q9,RY,RV,RT,RR,RP,RM,RG,RE,Rz,Rx,Rv,Rt,Rr,Rp,Rl,Rj,Rh,Rf,Rc,Ra,R8,R5,SZ,SX,SV,ST,SR,SP,SN,SL,SJ,SH,SF,SD,SB,Sz,Sw,Su,Ss,Sq,So,Sm,Sj,Sh,Sf,Sd,Sb,S9,S7,S5,TZ,TX,TV,TT,TR,TP,TN,TL,TJ,TH,TF,TD,TB,Tz,Tw,Tu,Ts,Tq,To,Tm,Th,Tf,Td,Tb,UZ,UX,UV,UT,UR,UP,UN,UL,UJ,UH,UF,UD,UB,Uz,Ux,Uv,Ut,Ur,Up,Un,Ul,Uj,Uh,Uf,Ud,Ub,U9,U7,U5,U3,U1,VZ,VX,VV,VT,VR,VP,VN,VL,VJ,VH,VF,VD,VB,Vz,Vx,Vv,Vt,Vr,Vp,Vn,Vl,Vj,Vh,Vf,Vd].toArray,[]⟩ W:=by
 subst hC
 subst h10
 replace hQ:=zH hQ
 conv=>arg 2;whnf
 obtain ⟨h17,Gj,Tj,Aj,nj,Fj,hWj,hx17,hx18⟩:=hW
 have hWs:=hWj.size
 have e17:=(hWj.ee b17 (.inl rfl))
 have e18:=(hWj.ee b18 (.inr rfl))
 obtain ⟨cj,fj,zj⟩:=blk hx18
 obtain ⟨ca,fa,za⟩:=blk hx17
 obtain ⟨cd,fd,zd⟩:=blk hWj.dp.blk
 have hcf:=hWj.dp.cfg
 have hb0:=hWj.b0
 have n4:=hc.nchans
 have o4:=hc.nowners
 have hnm:=ha.name
 obtain ⟨kd,nm,v⟩:=a
 dsimp only at hnm hQ ca⊢
 clear hWj hx18 hx17 cj fj zj cd fd zd
 by_cases hk:kd=4
 ·subst hk
  have h0:0≤nm:=hnm (by simp)
  obtain ⟨i,rfl⟩:=Int.eq_ofNat_of_zero_le h0
  have i0:(0:Int)≤(i:Int):=by omega
  rw [show refusedA c m ⟨4,i,v⟩=(decide ((c.chans.length:Int)≤i)||decide ((nth c.chans i).src≠m)) by unfold refusedA;simp] at hQ
  by_cases hlen:i < c.chans.length
  ·have q1:decide (i < c.chans.length)=true:=by simpa using hlen
   have i1:(i:Int) < c.chans.length:=by omega
   rw [show decide ((c.chans.length:Int)≤i)=false by simp;omega,Bool.false_or] at hQ
   obtain ⟨b,o,e,hI,x0,x1,x2⟩:=hcf.s2.at_chan hlen
   rw [e] at hb0
   obtain ⟨c0,f0,z0⟩:=blk hb0
   have hbl:b < W.heap.size:=by have hb':b < w.heap.size:=hI;omega
   clear e hlen
   by_cases hx:(nth c.chans i).src=m
   ·have q2:((nth c.chans i).src==m)=true:=by simp [hx]
    rw [show decide ((nth c.chans i).src≠m)=false by simp [hx]] at hQ
    simp only [Bool.not_true,Bool.not_false] at hQ
    clear hx
    go_wp2_with fail
    exact hQ.out _ _ _ _ _ _ _ _ _ _ _ _ _ _ _ _ _ _ _ _ _ _ _ _ _ _ _ _ _ _ _ _ _ _ _ _ _ _ _ _ _ _ _ _ _ _ _ _ _ _ _ _ _ _ _ _ _ rfl
   ·have q2:((nth c.chans i).src==m)=false:=by simp [hx]
    rw [show decide ((nth c.chans i).src≠m)=true by simp [hx]] at hQ
    simp only [Bool.not_true,Bool.not_false] at hQ
    clear hx
    go_wp2_with fail
    exact hQ.out _ _ _ _ _ _ _ _ _ _ _ _ _ _ _ _ _ _ _ _ _ _ _ _ _ _ _ _ _ _ _ _ _ _ _ _ _ _ _ _ _ _ _ _ _ _ _ _ _ _ _ _ _ _ _ _ _ rfl
  ·have q1:decide (i < c.chans.length)=false:=by simpa using hlen
   rw [show decide ((c.chans.length:Int)≤i)=true by simp;omega,Bool.true_or] at hQ
   simp only [Bool.not_true,Bool.not_false] at hQ
   obtain ⟨c0,f0,z0⟩:=blk hb0
   clear hlen
   go_wp2_with fail
   exact hQ.out _ _ _ _ _ _ _ _ _ _ _ _ _ _ _ _ _ _ _ _ _ _ _ _ _ _ _ _ _ _ _ _ _ _ _ _ _ _ _ _ _ _ _ _ _ _ _ _ _ _ _ _ _ _ _ _ _ rfl
 by_cases hk5:kd=5
 ·subst hk5
  have h0:0≤nm:=hnm (by simp)
  obtain ⟨i,rfl⟩:=Int.eq_ofNat_of_zero_le h0
  have i0:(0:Int)≤(i:Int):=by omega
  rw [show refusedA c m ⟨5,i,v⟩=(decide ((c.chans.length:Int)≤i)||decide ((nth c.chans i).dst≠m)) by unfold refusedA;simp] at hQ
  by_cases hlen:i < c.chans.length
  ·have q1:decide (i < c.chans.length)=true:=by simpa using hlen
   have i1:(i:Int) < c.chans.length:=by omega
   rw [show decide ((c.chans.length:Int)≤i)=false by simp;omega,Bool.false_or] at hQ
   obtain ⟨b,o,e,hI,x0,x1,x2⟩:=hcf.s2.at_chan hlen
   rw [e] at hb0
   obtain ⟨c0,f0,z0⟩:=blk hb0
   have hbl:b < W.heap.size:=by have hb':b < w.heap.size:=hI;omega
   clear e hlen
   by_cases hx:(nth c.chans i).dst=m
   ·have q2:((nth c.chans i).dst==m)=true:=by simp [hx]
    rw [show decide ((nth c.chans i).dst≠m)=false by simp [hx]] at hQ
    simp only [Bool.not_true,Bool.not_false] at hQ
    clear hx
    go_wp2_with fail
    exact hQ.out _ _ _ _ _ _ _ _ _ _ _ _ _ _ _ _ _ _ _ _ _ _ _ _ _ _ _ _ _ _ _ _ _ _ _ _ _ _ _ _ _ _ _ _ _ _ _ _ _ _ _ _ _ _ _ _ _ rfl
   ·have q2:((nth c.chans i).dst==m)=false:=by simp [hx]
    rw [show decide ((nth c.chans i).dst≠m)=true by simp [hx]] at hQ
    simp only [Bool.not_true,Bool.not_false] at hQ
    clear hx
    go_wp2_with fail
    exact hQ.out _ _ _ _ _ _ _ _ _ _ _ _ _ _ _ _ _ _ _ _ _ _ _ _ _ _ _ _ _ _ _ _ _ _ _ _ _ _ _ _ _ _ _ _ _ _ _ _ _ _ _ _ _ _ _ _ _ rfl
  ·have q1:decide (i < c.chans.length)=false:=by simpa using hlen
   rw [show decide ((c.chans.length:Int)≤i)=true by simp;omega,Bool.true_or] at hQ
   simp only [Bool.not_true,Bool.not_false] at hQ
   obtain ⟨c0,f0,z0⟩:=blk hb0
   clear hlen
   go_wp2_with fail
   exact hQ.out _ _ _ _ _ _ _ _ _ _ _ _ _ _ _ _ _ _ _ _ _ _ _ _ _ _ _ _ _ _ _ _ _ _ _ _ _ _ _ _ _ _ _ _ _ _ _ _ _ _ _ _ _ _ _ _ _ rfl
 by_cases hk7:kd=7
 ·subst hk7
  have h0:0≤nm:=hnm (by simp)
  obtain ⟨i,rfl⟩:=Int.eq_ofNat_of_zero_le h0
  have i0:(0:Int)≤(i:Int):=by omega
  rw [show refusedA c m ⟨7,i,v⟩=(decide ((c.owners.length:Int)≤i)||decide (nth c.owners i≠m)) by unfold refusedA;simp] at hQ
  by_cases hlen:i < c.owners.length
  ·have q1:decide (i < c.owners.length)=true:=by simpa using hlen
   have i1:(i:Int) < c.owners.length:=by omega
   rw [show decide ((c.owners.length:Int)≤i)=false by simp;omega,Bool.false_or] at hQ
   obtain ⟨b,o,e,hI,x0⟩:=hcf.s1.at_int hlen
   rw [e] at hb0
   obtain ⟨c0,f0,z0⟩:=blk hb0
   have hbl:b < W.heap.size:=by have hb':b < w.heap.size:=hI;omega
   clear e hlen
   by_cases hx:nth c.owners i=m
   ·have q2:(nth c.owners i==m)=true:=by simp [hx]
    rw [show decide (nth c.owners i≠m)=false by simp [hx]] at hQ
    simp only [Bool.not_true,Bool.not_false] at hQ
    clear hx
    go_wp2_with fail
    exact hQ.out _ _ _ _ _ _ _ _ _ _ _ _ _ _ _ _ _ _ _ _ _ _ _ _ _ _ _ _ _ _ _ _ _ _ _ _ _ _ _ _ _ _ _ _ _ _ _ _ _ _ _ _ _ _ _ _ _ rfl
   ·have q2:(nth c.owners i==m)=false:=by simp [hx]
    rw [show decide (nth c.owners i≠m)=true by simp [hx]] at hQ
    simp only [Bool.not_true,Bool.not_false] at hQ
    clear hx
    go_wp2_with fail
    exact hQ.out _ _ _ _ _ _ _ _ _ _ _ _ _ _ _ _ _ _ _ _ _ _ _ _ _ _ _ _ _ _ _ _ _ _ _ _ _ _ _ _ _ _ _ _ _ _ _ _ _ _ _ _ _ _ _ _ _ rfl
  ·have q1:decide (i < c.owners.length)=false:=by simpa using hlen
   rw [show decide ((c.owners.length:Int)≤i)=true by simp;omega,Bool.true_or] at hQ
   simp only [Bool.not_true,Bool.not_false] at hQ
   obtain ⟨c0,f0,z0⟩:=blk hb0
   clear hlen
   go_wp2_with fail
   exact hQ.out _ _ _ _ _ _ _ _ _ _ _ _ _ _ _ _ _ _ _ _ _ _ _ _ _ _ _ _ _ _ _ _ _ _ _ _ _ _ _ _ _ _ _ _ _ _ _ _ _ _ _ _ _ _ _ _ _ rfl
 have q4:(kd==4)=false:=by simpa using hk
 have q5:(kd==5)=false:=by simpa using hk5
 have q7:(kd==7)=false:=by simpa using hk7
 rw [show refusedA c m ⟨kd,nm,v⟩=false by simp [refusedA,hk,hk5,hk7]] at hQ
 simp only [Bool.not_false] at hQ
 clear hk hk5 hk7 hnm
 go_wp2_with fail
 exact hQ.out _ _ _ _ _ _ _ _ _ _ _ _ _ _ _ _ _ _ _ _ _ _ _ _ _ _ _ _ _ _ _ _ _ _ _ _ _ _ _ _ _ _ _ _ _ _ _ _ _ _ _ _ _ _ _ _ _ rfl
theorem cell_noop {W:World}{b i:Nat}{v:Value}(h:W.cell? ⟨b,i,none⟩=some v):W.setCell ⟨b,i,none⟩ v=W:=by
 unfold World.cell? at h
 unfold World.setCell
 dsimp only at h⊢
 split at h
 ·rename_i c t f hb
  simp only [Option.isSome_none,Bool.false_eq_true,if_false] at h
  obtain ⟨hi,hv⟩:=Array.getElem?_eq_some_iff.mp h
  obtain ⟨hj,hw⟩:=Array.getElem?_eq_some_iff.mp hb
  have e1:c.setIfInBounds i v=c:=by
   apply Array.ext
   ·simp
   ·intro j h1 h2
    rw [Array.getElem_setIfInBounds]
    split
    ·rename_i e;subst e;exact hv.symm
    ·rfl
  have e2:(W.heap.modify b fun x=>match x with
    | .cells c elem frozen=> .cells (if (none:Option Nat).isSome=true then c else c.setIfInBounds i v) elem frozen
    |o=>o)=W.heap:=by
   apply Array.ext
   ·simp
   ·intro j h1 h2
    rw [Array.getElem_modify]
    split
    ·rename_i e;subst e;rw [hw];simp [e1]
    ·rfl
  cases W
  simp only at e2⊢
  congr 1
 ·cases h
theorem wofR32 (C:Code)(hC:C=stOf (regionNo 32)){w:World}{c:TCfg}{S:TCfgS}{b17 b18 g10:Nat}{a:TAct}{d:TDom}{k:List (List TWay)}{j:TJob}{W:World}{m now:Int}(h10:g10=w.heap.size+2)(hW:WmJ w c S b17 b18 a d k j W)(hev:d.events.length+1≤4398046511104)(hnx:0≤d.next∧d.next≤100000)
  {Q:Exit→Act→World→Prop}
  (hQ:∀(Qq Qo Qm Qk Qi Qg:Value) (W':World),(WmJ w c S b17 b18 a (tellOf d now 12 (d.next - 1) (0)) k j W')→Q .normal ⟨[KZ,(.int .i64 m),KU,KS,KO,(.int .i64 now),KI,(.pointer (some ⟨w.heap.size,0,none⟩)),Kz,(.pointer (some ⟨w.heap.size+1,0,none⟩)),(.pointer (some ⟨g10,0,none⟩)),Kt,Kr,Ko,Km,Kk,Ki,(.pointer (some ⟨b17,0,none⟩)),(.pointer (some ⟨b18,0,none⟩)),Kc,Ka,K8,K6,K4,K1,LZ,LX,LV,LT,LR,LP,LN,LK,LI,LG,LE,LC,Lz,Lx,Lv,Lt,Lr,Lp,Ln,Ll,Lj,Lh,Lf,Ld,Lb,L6,MY,MW,MU,MS,MQ,MO,MM,MK,MI,MG,ME,MC,MA,My,Mw,Mu,Ms,Mq,Mo,Mm,Mk,Mi,Mg,Me,Mc,Ma,M8,M6,M4,M2,M0,NY,NW,NU,NS,NQ,NO,NL,NJ,NH,NF,ND,NB,Nz,Nx,Nv,Nt,Nr,Np,Nn,Nl,Nj,Nh,Nf,Nc,Na,N8,N6,N4,N2,OZ,OX,OV,OT,OR,OP,ON,OL,OJ,OH,OF,OD,OB,Oz,Ox,Ov,Ot,Oo,Om,Ok,Oi,Og,Oe,Oc,Oa,O8,O6,O4,O2,O0,PY,PW,PU,PS,PQ,PO,PM,PK,PI,PG,PE,PC,PA,Py,Pw,Pu,Ps,Pq,Po,Pm,Pj,Ph,Pf,Pd,Pb,P9,P7,P5,P3,P1,QZ,QX,QV,QT,QR,QP,QN,QL,QJ,QH,QF,QD,QB,Qz,Qx,Qv,Qt,Qq,Qo,Qm,Qk,Qi,Qg,Qf,Qd,Qb,Q9,RY,RV,RT,RR,RP,RM,RG,RE,Rz,Rx,Rv,Rt,Rr,Rp,Rl,Rj,Rh,Rf,Rc,Ra,R8,R5,SZ,SX,SV,ST,SR,SP,SN,SL,SJ,SH,SF,SD,SB,Sz,Sw,Su,Ss,Sq,So,Sm,Sj,Sh,Sf,Sd,Sb,S9,S7,S5,TZ,TX,TV,TT,TR,TP,TN,TL,TJ,TH,TF,TD,TB,Tz,Tw,Tu,Ts,Tq,To,Tm,Th,Tf,Td,Tb,UZ,UX,UV,UT,UR,UP,UN,UL,UJ,UH,UF,UD,UB,Uz,Ux,Uv,Ut,Ur,Up,Un,Ul,Uj,Uh,Uf,Ud,Ub,U9,U7,U5,U3,U1,VZ,VX,VV,VT,VR,VP,VN,VL,VJ,VH,VF,VD,VB,Vz,Vx,Vv,Vt,Vr,Vp,Vn,Vl,Vj,Vh,Vf,Vd].toArray,[]⟩ W'):
  Code.wp Try.prog C Q ⟨[KZ,(.int .i64 m),KU,KS,KO,(.int .i64 now),KI,(.pointer (some ⟨w.heap.size,0,none⟩)),Kz,(.pointer (some ⟨w.heap.size+1,0,none⟩)),(.pointer (some ⟨g10,0,none⟩)),Kt,Kr,Ko,Km,Kk,Ki,(.pointer (some ⟨b17,0,none⟩)),(.pointer (some ⟨b18,0,none⟩)),Kc,Ka,K8,K6,K4,K1,LZ,LX,LV,LT,LR,LP,LN,LK,LI,LG,LE,LC,Lz,Lx,Lv,Lt,Lr,Lp,Ln,Ll,Lj,Lh,Lf,Ld,Lb,L6,MY,MW,MU,MS,MQ,MO,MM,MK,MI,MG,ME,MC,MA,My,Mw,Mu,Ms,Mq,Mo,Mm,Mk,Mi,Mg,Me,Mc,Ma,M8,M6,M4,M2,M0,NY,NW,NU,NS,NQ,NO,NL,NJ,NH,NF,ND,NB,Nz,Nx,Nv,Nt,Nr,Np,Nn,Nl,Nj,Nh,Nf,Nc,Na,N8,N6,N4,N2,OZ,OX,OV,OT,OR,OP,ON,OL,OJ,OH,OF,OD,OB,Oz,Ox,Ov,Ot,Oo,Om,Ok,Oi,Og,Oe,Oc,Oa,O8,O6,O4,O2,O0,PY,PW,PU,PS,PQ,PO,PM,PK,PI,PG,PE,PC,PA,Py,Pw,Pu,Ps,Pq,Po,Pm,Pj,Ph,Pf,Pd,Pb,P9,P7,P5,P3,P1,QZ,QX,QV,QT,QR,QP,QN,QL,QJ,QH,QF,QD,QB,Qz,Qx,Qv,Qt,Qr,Qp,Qn,Ql,Qj,Qh,Qf,Qd,Qb,Q9,RY,RV,RT,RR,RP,RM,RG,RE,Rz,Rx,Rv,Rt,Rr,Rp,Rl,Rj,Rh,Rf,Rc,Ra,R8,R5,SZ,SX,SV,ST,SR,SP,SN,SL,SJ,SH,SF,SD,SB,Sz,Sw,Su,Ss,Sq,So,Sm,Sj,Sh,Sf,Sd,Sb,S9,S7,S5,TZ,TX,TV,TT,TR,TP,TN,TL,TJ,TH,TF,TD,TB,Tz,Tw,Tu,Ts,Tq,To,Tm,Th,Tf,Td,Tb,UZ,UX,UV,UT,UR,UP,UN,UL,UJ,UH,UF,UD,UB,Uz,Ux,Uv,Ut,Ur,Up,Un,Ul,Uj,Uh,Uf,Ud,Ub,U9,U7,U5,U3,U1,VZ,VX,VV,VT,VR,VP,VN,VL,VJ,VH,VF,VD,VB,Vz,Vx,Vv,Vt,Vr,Vp,Vn,Vl,Vj,Vh,Vf,Vd].toArray,[]⟩ W:=by
 subst hC
 subst h10
 replace hQ:=zH hQ
 conv=>arg 2;whnf
 obtain ⟨h17,Gj,Tj,Aj,nj,Fj,hWj,hx17,hx18⟩:=hW
 have hWs:=hWj.size
 have e17:=(hWj.ee b17 (.inl rfl))
 have e18:=(hWj.ee b18 (.inr rfl))
 obtain ⟨cj,fj,zj⟩:=blk hx18
 obtain ⟨ca,fa,za⟩:=blk hx17
 obtain ⟨cd,fd,zd⟩:=blk hWj.dp.blk
 obtain ⟨x0,x1⟩:=hnx
 have HT:=zH (fun V (hb:Below W.heap.size W V)=>refTell Gj w.heap.size V d Tj (hWj.ext hb).dp.dom (fun i b hi=>(hWj.dp.apart i b hi).2) (by have:=hb.size;omega) now 12 (d.next - 1) (0) (by omega))
 have hWjh:=zH hWj
 clear hWj
 go_wp2_with fail
 go_at_call 57
 refine (HT.out _ byB).mono ?_
 rintro e w8 ⟨A8,n8,G8,rfl,hO8,hE8⟩
 have hP:=WmJ.put h17 hWjh.out hx17 hx18 hO8 hE8
 dsimp only at hP
 simp only [List.length_append,List.length_cons,List.length_nil,Nat.zero_add] at hP
 obtain ⟨cx8,fx8,zx8⟩:=blk hP.2
 have hJ8:=zH hP.1
 clear hP hO8 hE8 HT hx17 hx18
 go_wp2_with fail
 exact hQ.out _ _ _ _ _ _ _ hJ8.out
theorem wofR34 (C:Code)(hC:C=stOf (regionNo 34)){w:World}{c:TCfg}{S:TCfgS}{b17 b18 g10:Nat}{a:TAct}{d:TDom}{k:List (List TWay)}{j:TJob}{W:World}{m now:Int}{co:Int}(h10:g10=w.heap.size+2)(hW:WmJ w c S b17 b18 a d k j W)(hev:d.events.length+1≤4398046511104)
  {Q:Exit→Act→World→Prop}
  (hQ:∀(RW RU RS RQ:Value) (W':World),(WmJ w c S b17 b18 a (tellOf d now 11 (co) (0)) k j W')→Q .normal ⟨[KZ,(.int .i64 m),KU,KS,KO,(.int .i64 now),KI,(.pointer (some ⟨w.heap.size,0,none⟩)),Kz,(.pointer (some ⟨w.heap.size+1,0,none⟩)),(.pointer (some ⟨g10,0,none⟩)),Kt,Kr,Ko,Km,Kk,Ki,(.pointer (some ⟨b17,0,none⟩)),(.pointer (some ⟨b18,0,none⟩)),(.int .i64 co),Ka,K8,K6,K4,K1,LZ,LX,LV,LT,LR,LP,LN,LK,LI,LG,LE,LC,Lz,Lx,Lv,Lt,Lr,Lp,Ln,Ll,Lj,Lh,Lf,Ld,Lb,L6,MY,MW,MU,MS,MQ,MO,MM,MK,MI,MG,ME,MC,MA,My,Mw,Mu,Ms,Mq,Mo,Mm,Mk,Mi,Mg,Me,Mc,Ma,M8,M6,M4,M2,M0,NY,NW,NU,NS,NQ,NO,NL,NJ,NH,NF,ND,NB,Nz,Nx,Nv,Nt,Nr,Np,Nn,Nl,Nj,Nh,Nf,Nc,Na,N8,N6,N4,N2,OZ,OX,OV,OT,OR,OP,ON,OL,OJ,OH,OF,OD,OB,Oz,Ox,Ov,Ot,Oo,Om,Ok,Oi,Og,Oe,Oc,Oa,O8,O6,O4,O2,O0,PY,PW,PU,PS,PQ,PO,PM,PK,PI,PG,PE,PC,PA,Py,Pw,Pu,Ps,Pq,Po,Pm,Pj,Ph,Pf,Pd,Pb,P9,P7,P5,P3,P1,QZ,QX,QV,QT,QR,QP,QN,QL,QJ,QH,QF,QD,QB,Qz,Qx,Qv,Qt,Qr,Qp,Qn,Ql,Qj,Qh,Qf,Qd,Qb,Q9,RW,RU,RS,RQ,RP,RM,RG,RE,Rz,Rx,Rv,Rt,Rr,Rp,Rl,Rj,Rh,Rf,Rc,Ra,R8,R5,SZ,SX,SV,ST,SR,SP,SN,SL,SJ,SH,SF,SD,SB,Sz,Sw,Su,Ss,Sq,So,Sm,Sj,Sh,Sf,Sd,Sb,S9,S7,S5,TZ,TX,TV,TT,TR,TP,TN,TL,TJ,TH,TF,TD,TB,Tz,Tw,Tu,Ts,Tq,To,Tm,Th,Tf,Td,Tb,UZ,UX,UV,UT,UR,UP,UN,UL,UJ,UH,UF,UD,UB,Uz,Ux,Uv,Ut,Ur,Up,Un,Ul,Uj,Uh,Uf,Ud,Ub,U9,U7,U5,U3,U1,VZ,VX,VV,VT,VR,VP,VN,VL,VJ,VH,VF,VD,VB,Vz,Vx,Vv,Vt,Vr,Vp,Vn,Vl,Vj,Vh,Vf,Vd].toArray,[]⟩ W'):
  Code.wp Try.prog C Q ⟨[KZ,(.int .i64 m),KU,KS,KO,(.int .i64 now),KI,(.pointer (some ⟨w.heap.size,0,none⟩)),Kz,(.pointer (some ⟨w.heap.size+1,0,none⟩)),(.pointer (some ⟨g10,0,none⟩)),Kt,Kr,Ko,Km,Kk,Ki,(.pointer (some ⟨b17,0,none⟩)),(.pointer (some ⟨b18,0,none⟩)),(.int .i64 co),Ka,K8,K6,K4,K1,LZ,LX,LV,LT,LR,LP,LN,LK,LI,LG,LE,LC,Lz,Lx,Lv,Lt,Lr,Lp,Ln,Ll,Lj,Lh,Lf,Ld,Lb,L6,MY,MW,MU,MS,MQ,MO,MM,MK,MI,MG,ME,MC,MA,My,Mw,Mu,Ms,Mq,Mo,Mm,Mk,Mi,Mg,Me,Mc,Ma,M8,M6,M4,M2,M0,NY,NW,NU,NS,NQ,NO,NL,NJ,NH,NF,ND,NB,Nz,Nx,Nv,Nt,Nr,Np,Nn,Nl,Nj,Nh,Nf,Nc,Na,N8,N6,N4,N2,OZ,OX,OV,OT,OR,OP,ON,OL,OJ,OH,OF,OD,OB,Oz,Ox,Ov,Ot,Oo,Om,Ok,Oi,Og,Oe,Oc,Oa,O8,O6,O4,O2,O0,PY,PW,PU,PS,PQ,PO,PM,PK,PI,PG,PE,PC,PA,Py,Pw,Pu,Ps,Pq,Po,Pm,Pj,Ph,Pf,Pd,Pb,P9,P7,P5,P3,P1,QZ,QX,QV,QT,QR,QP,QN,QL,QJ,QH,QF,QD,QB,Qz,Qx,Qv,Qt,Qr,Qp,Qn,Ql,Qj,Qh,Qf,Qd,Qb,Q9,RY,RV,RT,RR,RP,RM,RG,RE,Rz,Rx,Rv,Rt,Rr,Rp,Rl,Rj,Rh,Rf,Rc,Ra,R8,R5,SZ,SX,SV,ST,SR,SP,SN,SL,SJ,SH,SF,SD,SB,Sz,Sw,Su,Ss,Sq,So,Sm,Sj,Sh,Sf,Sd,Sb,S9,S7,S5,TZ,TX,TV,TT,TR,TP,TN,TL,TJ,TH,TF,TD,TB,Tz,Tw,Tu,Ts,Tq,To,Tm,Th,Tf,Td,Tb,UZ,UX,UV,UT,UR,UP,UN,UL,UJ,UH,UF,UD,UB,Uz,Ux,Uv,Ut,Ur,Up,Un,Ul,Uj,Uh,Uf,Ud,Ub,U9,U7,U5,U3,U1,VZ,VX,VV,VT,VR,VP,VN,VL,VJ,VH,VF,VD,VB,Vz,Vx,Vv,Vt,Vr,Vp,Vn,Vl,Vj,Vh,Vf,Vd].toArray,[]⟩ W:=by
 subst hC
 subst h10
 replace hQ:=zH hQ
 conv=>arg 2;whnf
 obtain ⟨h17,Gj,Tj,Aj,nj,Fj,hWj,hx17,hx18⟩:=hW
 have hWs:=hWj.size
 have e17:=(hWj.ee b17 (.inl rfl))
 have e18:=(hWj.ee b18 (.inr rfl))
 obtain ⟨cj,fj,zj⟩:=blk hx18
 obtain ⟨ca,fa,za⟩:=blk hx17
 obtain ⟨cd,fd,zd⟩:=blk hWj.dp.blk
 have HT:=zH (fun V (hb:Below W.heap.size W V)=>refTell Gj w.heap.size V d Tj (hWj.ext hb).dp.dom (fun i b hi=>(hWj.dp.apart i b hi).2) (by have:=hb.size;omega) now 11 (co) (0) (by omega))
 have hWjh:=zH hWj
 clear hWj
 go_wp2_with fail
 go_at_call 57
 refine (HT.out _ byB).mono ?_
 rintro e w8 ⟨A8,n8,G8,rfl,hO8,hE8⟩
 have hP:=WmJ.put h17 hWjh.out hx17 hx18 hO8 hE8
 dsimp only at hP
 simp only [List.length_append,List.length_cons,List.length_nil,Nat.zero_add] at hP
 obtain ⟨cx8,fx8,zx8⟩:=blk hP.2
 have hJ8:=zH hP.1
 clear hP hO8 hE8 HT hx17 hx18
 go_wp2_with fail
 exact hQ.out _ _ _ _ _ hJ8.out
theorem wofR37 (C:Code)(hC:C=stOf (regionNo 37)){w:World}{c:TCfg}{S:TCfgS}{b17 b18 g10:Nat}{a:TAct}{d:TDom}{k:List (List TWay)}{j:TJob}{W:World}{m now:Int}(h10:g10=w.heap.size+2)(hW:WmJ w c S b17 b18 a d k j W)(hev:d.events.length+1≤4398046511104)
  {Q:Exit→Act→World→Prop}
  (hQ:∀(SW SU SS SQ SO:Value) (W':World),(WmJ w c S b17 b18 a (tellOf d now 9 (a.n) (0)) k j W')→Q .normal ⟨[KZ,(.int .i64 m),KU,KS,KO,(.int .i64 now),KI,(.pointer (some ⟨w.heap.size,0,none⟩)),Kz,(.pointer (some ⟨w.heap.size+1,0,none⟩)),(.pointer (some ⟨g10,0,none⟩)),Kt,Kr,Ko,Km,Kk,Ki,(.pointer (some ⟨b17,0,none⟩)),(.pointer (some ⟨b18,0,none⟩)),Kc,Ka,K8,K6,K4,K1,LZ,LX,LV,LT,LR,LP,LN,LK,LI,LG,LE,LC,Lz,Lx,Lv,Lt,Lr,Lp,Ln,Ll,Lj,Lh,Lf,Ld,Lb,L6,MY,MW,MU,MS,MQ,MO,MM,MK,MI,MG,ME,MC,MA,My,Mw,Mu,Ms,Mq,Mo,Mm,Mk,Mi,Mg,Me,Mc,Ma,M8,M6,M4,M2,M0,NY,NW,NU,NS,NQ,NO,NL,NJ,NH,NF,ND,NB,Nz,Nx,Nv,Nt,Nr,Np,Nn,Nl,Nj,Nh,Nf,Nc,Na,N8,N6,N4,N2,OZ,OX,OV,OT,OR,OP,ON,OL,OJ,OH,OF,OD,OB,Oz,Ox,Ov,Ot,Oo,Om,Ok,Oi,Og,Oe,Oc,Oa,O8,O6,O4,O2,O0,PY,PW,PU,PS,PQ,PO,PM,PK,PI,PG,PE,PC,PA,Py,Pw,Pu,Ps,Pq,Po,Pm,Pj,Ph,Pf,Pd,Pb,P9,P7,P5,P3,P1,QZ,QX,QV,QT,QR,QP,QN,QL,QJ,QH,QF,QD,QB,Qz,Qx,Qv,Qt,Qr,Qp,Qn,Ql,Qj,Qh,Qf,Qd,Qb,Q9,RY,RV,RT,RR,RP,RM,RG,RE,Rz,Rx,Rv,Rt,Rr,Rp,Rl,Rj,Rh,Rf,Rc,Ra,R8,R5,SZ,SW,SU,SS,SQ,SO,SN,SL,SJ,SH,SF,SD,SB,Sz,Sw,Su,Ss,Sq,So,Sm,Sj,Sh,Sf,Sd,Sb,S9,S7,S5,TZ,TX,TV,TT,TR,TP,TN,TL,TJ,TH,TF,TD,TB,Tz,Tw,Tu,Ts,Tq,To,Tm,Th,Tf,Td,Tb,UZ,UX,UV,UT,UR,UP,UN,UL,UJ,UH,UF,UD,UB,Uz,Ux,Uv,Ut,Ur,Up,Un,Ul,Uj,Uh,Uf,Ud,Ub,U9,U7,U5,U3,U1,VZ,VX,VV,VT,VR,VP,VN,VL,VJ,VH,VF,VD,VB,Vz,Vx,Vv,Vt,Vr,Vp,Vn,Vl,Vj,Vh,Vf,Vd].toArray,[]⟩ W'):
  Code.wp Try.prog C Q ⟨[KZ,(.int .i64 m),KU,KS,KO,(.int .i64 now),KI,(.pointer (some ⟨w.heap.size,0,none⟩)),Kz,(.pointer (some ⟨w.heap.size+1,0,none⟩)),(.pointer (some ⟨g10,0,none⟩)),Kt,Kr,Ko,Km,Kk,Ki,(.pointer (some ⟨b17,0,none⟩)),(.pointer (some ⟨b18,0,none⟩)),Kc,Ka,K8,K6,K4,K1,LZ,LX,LV,LT,LR,LP,LN,LK,LI,LG,LE,LC,Lz,Lx,Lv,Lt,Lr,Lp,Ln,Ll,Lj,Lh,Lf,Ld,Lb,L6,MY,MW,MU,MS,MQ,MO,MM,MK,MI,MG,ME,MC,MA,My,Mw,Mu,Ms,Mq,Mo,Mm,Mk,Mi,Mg,Me,Mc,Ma,M8,M6,M4,M2,M0,NY,NW,NU,NS,NQ,NO,NL,NJ,NH,NF,ND,NB,Nz,Nx,Nv,Nt,Nr,Np,Nn,Nl,Nj,Nh,Nf,Nc,Na,N8,N6,N4,N2,OZ,OX,OV,OT,OR,OP,ON,OL,OJ,OH,OF,OD,OB,Oz,Ox,Ov,Ot,Oo,Om,Ok,Oi,Og,Oe,Oc,Oa,O8,O6,O4,O2,O0,PY,PW,PU,PS,PQ,PO,PM,PK,PI,PG,PE,PC,PA,Py,Pw,Pu,Ps,Pq,Po,Pm,Pj,Ph,Pf,Pd,Pb,P9,P7,P5,P3,P1,QZ,QX,QV,QT,QR,QP,QN,QL,QJ,QH,QF,QD,QB,Qz,Qx,Qv,Qt,Qr,Qp,Qn,Ql,Qj,Qh,Qf,Qd,Qb,Q9,RY,RV,RT,RR,RP,RM,RG,RE,Rz,Rx,Rv,Rt,Rr,Rp,Rl,Rj,Rh,Rf,Rc,Ra,R8,R5,SZ,SX,SV,ST,SR,SP,SN,SL,SJ,SH,SF,SD,SB,Sz,Sw,Su,Ss,Sq,So,Sm,Sj,Sh,Sf,Sd,Sb,S9,S7,S5,TZ,TX,TV,TT,TR,TP,TN,TL,TJ,TH,TF,TD,TB,Tz,Tw,Tu,Ts,Tq,To,Tm,Th,Tf,Td,Tb,UZ,UX,UV,UT,UR,UP,UN,UL,UJ,UH,UF,UD,UB,Uz,Ux,Uv,Ut,Ur,Up,Un,Ul,Uj,Uh,Uf,Ud,Ub,U9,U7,U5,U3,U1,VZ,VX,VV,VT,VR,VP,VN,VL,VJ,VH,VF,VD,VB,Vz,Vx,Vv,Vt,Vr,Vp,Vn,Vl,Vj,Vh,Vf,Vd].toArray,[]⟩ W:=by
 subst hC
 subst h10
 replace hQ:=zH hQ
 conv=>arg 2;whnf
 obtain ⟨h17,Gj,Tj,Aj,nj,Fj,hWj,hx17,hx18⟩:=hW
 have hWs:=hWj.size
 have e17:=(hWj.ee b17 (.inl rfl))
 have e18:=(hWj.ee b18 (.inr rfl))
 obtain ⟨cj,fj,zj⟩:=blk hx18
 obtain ⟨ca,fa,za⟩:=blk hx17
 obtain ⟨cd,fd,zd⟩:=blk hWj.dp.blk
 have HT:=zH (fun V (hb:Below W.heap.size W V)=>refTell Gj w.heap.size V d Tj (hWj.ext hb).dp.dom (fun i b hi=>(hWj.dp.apart i b hi).2) (by have:=hb.size;omega) now 9 (a.n) (0) (by omega))
 have hWjh:=zH hWj
 clear hWj
 go_wp2_with fail
 go_at_call 57
 refine (HT.out _ byB).mono ?_
 rintro e w8 ⟨A8,n8,G8,rfl,hO8,hE8⟩
 have hP:=WmJ.put h17 hWjh.out hx17 hx18 hO8 hE8
 dsimp only at hP
 simp only [List.length_append,List.length_cons,List.length_nil,Nat.zero_add] at hP
 obtain ⟨cx8,fx8,zx8⟩:=blk hP.2
 have hJ8:=zH hP.1
 clear hP hO8 hE8 HT hx17 hx18
 go_wp2_with fail
 exact hQ.out _ _ _ _ _ _ hJ8.out
theorem wofR41 (C:Code)(hC:C=stOf (regionNo 41)){w:World}{c:TCfg}{S:TCfgS}{b17 b18 g10:Nat}{a:TAct}{d:TDom}{k:List (List TWay)}{j:TJob}{W:World}{m now:Int}{x:Int}(h10:g10=w.heap.size+2)(hW:WmJ w c S b17 b18 a d k j W)(hev:d.events.length+1≤4398046511104)
  {Q:Exit→Act→World→Prop}
  (hQ:∀(S6 S3 TY TW TU TS:Value) (W':World),(WmJ w c S b17 b18 a (tellOf d now 8 (a.n) (x)) k j W')→Q .normal ⟨[KZ,(.int .i64 m),KU,KS,KO,(.int .i64 now),KI,(.pointer (some ⟨w.heap.size,0,none⟩)),Kz,(.pointer (some ⟨w.heap.size+1,0,none⟩)),(.pointer (some ⟨g10,0,none⟩)),Kt,Kr,Ko,Km,Kk,Ki,(.pointer (some ⟨b17,0,none⟩)),(.pointer (some ⟨b18,0,none⟩)),Kc,Ka,K8,(.int .i64 x),K4,K1,LZ,LX,LV,LT,LR,LP,LN,LK,LI,LG,LE,LC,Lz,Lx,Lv,Lt,Lr,Lp,Ln,Ll,Lj,Lh,Lf,Ld,Lb,L6,MY,MW,MU,MS,MQ,MO,MM,MK,MI,MG,ME,MC,MA,My,Mw,Mu,Ms,Mq,Mo,Mm,Mk,Mi,Mg,Me,Mc,Ma,M8,M6,M4,M2,M0,NY,NW,NU,NS,NQ,NO,NL,NJ,NH,NF,ND,NB,Nz,Nx,Nv,Nt,Nr,Np,Nn,Nl,Nj,Nh,Nf,Nc,Na,N8,N6,N4,N2,OZ,OX,OV,OT,OR,OP,ON,OL,OJ,OH,OF,OD,OB,Oz,Ox,Ov,Ot,Oo,Om,Ok,Oi,Og,Oe,Oc,Oa,O8,O6,O4,O2,O0,PY,PW,PU,PS,PQ,PO,PM,PK,PI,PG,PE,PC,PA,Py,Pw,Pu,Ps,Pq,Po,Pm,Pj,Ph,Pf,Pd,Pb,P9,P7,P5,P3,P1,QZ,QX,QV,QT,QR,QP,QN,QL,QJ,QH,QF,QD,QB,Qz,Qx,Qv,Qt,Qr,Qp,Qn,Ql,Qj,Qh,Qf,Qd,Qb,Q9,RY,RV,RT,RR,RP,RM,RG,RE,Rz,Rx,Rv,Rt,Rr,Rp,Rl,Rj,Rh,Rf,Rc,Ra,R8,R5,SZ,SX,SV,ST,SR,SP,SN,SL,SJ,SH,SF,SD,SB,Sz,Sw,Su,Ss,Sq,So,Sm,Sj,Sh,Sf,Sd,Sb,S9,S6,S3,TY,TW,TU,TS,TR,TP,TN,TL,TJ,TH,TF,TD,TB,Tz,Tw,Tu,Ts,Tq,To,Tm,Th,Tf,Td,Tb,UZ,UX,UV,UT,UR,UP,UN,UL,UJ,UH,UF,UD,UB,Uz,Ux,Uv,Ut,Ur,Up,Un,Ul,Uj,Uh,Uf,Ud,Ub,U9,U7,U5,U3,U1,VZ,VX,VV,VT,VR,VP,VN,VL,VJ,VH,VF,VD,VB,Vz,Vx,Vv,Vt,Vr,Vp,Vn,Vl,Vj,Vh,Vf,Vd].toArray,[]⟩ W'):
  Code.wp Try.prog C Q ⟨[KZ,(.int .i64 m),KU,KS,KO,(.int .i64 now),KI,(.pointer (some ⟨w.heap.size,0,none⟩)),Kz,(.pointer (some ⟨w.heap.size+1,0,none⟩)),(.pointer (some ⟨g10,0,none⟩)),Kt,Kr,Ko,Km,Kk,Ki,(.pointer (some ⟨b17,0,none⟩)),(.pointer (some ⟨b18,0,none⟩)),Kc,Ka,K8,(.int .i64 x),K4,K1,LZ,LX,LV,LT,LR,LP,LN,LK,LI,LG,LE,LC,Lz,Lx,Lv,Lt,Lr,Lp,Ln,Ll,Lj,Lh,Lf,Ld,Lb,L6,MY,MW,MU,MS,MQ,MO,MM,MK,MI,MG,ME,MC,MA,My,Mw,Mu,Ms,Mq,Mo,Mm,Mk,Mi,Mg,Me,Mc,Ma,M8,M6,M4,M2,M0,NY,NW,NU,NS,NQ,NO,NL,NJ,NH,NF,ND,NB,Nz,Nx,Nv,Nt,Nr,Np,Nn,Nl,Nj,Nh,Nf,Nc,Na,N8,N6,N4,N2,OZ,OX,OV,OT,OR,OP,ON,OL,OJ,OH,OF,OD,OB,Oz,Ox,Ov,Ot,Oo,Om,Ok,Oi,Og,Oe,Oc,Oa,O8,O6,O4,O2,O0,PY,PW,PU,PS,PQ,PO,PM,PK,PI,PG,PE,PC,PA,Py,Pw,Pu,Ps,Pq,Po,Pm,Pj,Ph,Pf,Pd,Pb,P9,P7,P5,P3,P1,QZ,QX,QV,QT,QR,QP,QN,QL,QJ,QH,QF,QD,QB,Qz,Qx,Qv,Qt,Qr,Qp,Qn,Ql,Qj,Qh,Qf,Qd,Qb,Q9,RY,RV,RT,RR,RP,RM,RG,RE,Rz,Rx,Rv,Rt,Rr,Rp,Rl,Rj,Rh,Rf,Rc,Ra,R8,R5,SZ,SX,SV,ST,SR,SP,SN,SL,SJ,SH,SF,SD,SB,Sz,Sw,Su,Ss,Sq,So,Sm,Sj,Sh,Sf,Sd,Sb,S9,S7,S5,TZ,TX,TV,TT,TR,TP,TN,TL,TJ,TH,TF,TD,TB,Tz,Tw,Tu,Ts,Tq,To,Tm,Th,Tf,Td,Tb,UZ,UX,UV,UT,UR,UP,UN,UL,UJ,UH,UF,UD,UB,Uz,Ux,Uv,Ut,Ur,Up,Un,Ul,Uj,Uh,Uf,Ud,Ub,U9,U7,U5,U3,U1,VZ,VX,VV,VT,VR,VP,VN,VL,VJ,VH,VF,VD,VB,Vz,Vx,Vv,Vt,Vr,Vp,Vn,Vl,Vj,Vh,Vf,Vd].toArray,[]⟩ W:=by
 subst hC
 subst h10
 replace hQ:=zH hQ
 conv=>arg 2;whnf
 obtain ⟨h17,Gj,Tj,Aj,nj,Fj,hWj,hx17,hx18⟩:=hW
 have hWs:=hWj.size
 have e17:=(hWj.ee b17 (.inl rfl))
 have e18:=(hWj.ee b18 (.inr rfl))
 obtain ⟨cj,fj,zj⟩:=blk hx18
 obtain ⟨ca,fa,za⟩:=blk hx17
 obtain ⟨cd,fd,zd⟩:=blk hWj.dp.blk
 have HT:=zH (fun V (hb:Below W.heap.size W V)=>refTell Gj w.heap.size V d Tj (hWj.ext hb).dp.dom (fun i b hi=>(hWj.dp.apart i b hi).2) (by have:=hb.size;omega) now 8 (a.n) (x) (by omega))
 have hWjh:=zH hWj
 clear hWj
 go_wp2_with fail
 go_at_call 57
 refine (HT.out _ byB).mono ?_
 rintro e w8 ⟨A8,n8,G8,rfl,hO8,hE8⟩
 have hP:=WmJ.put h17 hWjh.out hx17 hx18 hO8 hE8
 dsimp only at hP
 simp only [List.length_append,List.length_cons,List.length_nil,Nat.zero_add] at hP
 obtain ⟨cx8,fx8,zx8⟩:=blk hP.2
 have hJ8:=zH hP.1
 clear hP hO8 hE8 HT hx17 hx18
 go_wp2_with fail
 exact hQ.out _ _ _ _ _ _ _ hJ8.out
theorem wofR53 (C:Code)(hC:C=stOf (regionNo 53)){w:World}{c:TCfg}{S:TCfgS}{b17 b18 g10:Nat}{a:TAct}{d:TDom}{k:List (List TWay)}{j:TJob}{W:World}{m now:Int}{x:Int}(h10:g10=w.heap.size+2)(hW:WmJ w c S b17 b18 a d k j W)(hev:d.events.length+1≤4398046511104)
  {Q:Exit→Act→World→Prop}
  (hQ:∀(U2 U0 VY VW VU VS VQ VO:Value) (W':World),(WmJ w c S b17 b18 a (tellOf d now x (j.task) (j.number)) k j W')→Q .normal ⟨[KZ,(.int .i64 m),KU,KS,KO,(.int .i64 now),KI,(.pointer (some ⟨w.heap.size,0,none⟩)),Kz,(.pointer (some ⟨w.heap.size+1,0,none⟩)),(.pointer (some ⟨g10,0,none⟩)),Kt,Kr,Ko,Km,Kk,Ki,(.pointer (some ⟨b17,0,none⟩)),(.pointer (some ⟨b18,0,none⟩)),Kc,Ka,K8,K6,(.int .i64 x),K1,LZ,LX,LV,LT,LR,LP,LN,LK,LI,LG,LE,LC,Lz,Lx,Lv,Lt,Lr,Lp,Ln,Ll,Lj,Lh,Lf,Ld,Lb,L6,MY,MW,MU,MS,MQ,MO,MM,MK,MI,MG,ME,MC,MA,My,Mw,Mu,Ms,Mq,Mo,Mm,Mk,Mi,Mg,Me,Mc,Ma,M8,M6,M4,M2,M0,NY,NW,NU,NS,NQ,NO,NL,NJ,NH,NF,ND,NB,Nz,Nx,Nv,Nt,Nr,Np,Nn,Nl,Nj,Nh,Nf,Nc,Na,N8,N6,N4,N2,OZ,OX,OV,OT,OR,OP,ON,OL,OJ,OH,OF,OD,OB,Oz,Ox,Ov,Ot,Oo,Om,Ok,Oi,Og,Oe,Oc,Oa,O8,O6,O4,O2,O0,PY,PW,PU,PS,PQ,PO,PM,PK,PI,PG,PE,PC,PA,Py,Pw,Pu,Ps,Pq,Po,Pm,Pj,Ph,Pf,Pd,Pb,P9,P7,P5,P3,P1,QZ,QX,QV,QT,QR,QP,QN,QL,QJ,QH,QF,QD,QB,Qz,Qx,Qv,Qt,Qr,Qp,Qn,Ql,Qj,Qh,Qf,Qd,Qb,Q9,RY,RV,RT,RR,RP,RM,RG,RE,Rz,Rx,Rv,Rt,Rr,Rp,Rl,Rj,Rh,Rf,Rc,Ra,R8,R5,SZ,SX,SV,ST,SR,SP,SN,SL,SJ,SH,SF,SD,SB,Sz,Sw,Su,Ss,Sq,So,Sm,Sj,Sh,Sf,Sd,Sb,S9,S7,S5,TZ,TX,TV,TT,TR,TP,TN,TL,TJ,TH,TF,TD,TB,Tz,Tw,Tu,Ts,Tq,To,Tm,Th,Tf,Td,Tb,UZ,UX,UV,UT,UR,UP,UN,UL,UJ,UH,UF,UD,UB,Uz,Ux,Uv,Ut,Ur,Up,Un,Ul,Uj,Uh,Uf,Ud,Ub,U9,U7,U5,U2,U0,VY,VW,VU,VS,VQ,VO,VN,VL,VJ,VH,VF,VD,VB,Vz,Vx,Vv,Vt,Vr,Vp,Vn,Vl,Vj,Vh,Vf,Vd].toArray,[]⟩ W'):
  Code.wp Try.prog C Q ⟨[KZ,(.int .i64 m),KU,KS,KO,(.int .i64 now),KI,(.pointer (some ⟨w.heap.size,0,none⟩)),Kz,(.pointer (some ⟨w.heap.size+1,0,none⟩)),(.pointer (some ⟨g10,0,none⟩)),Kt,Kr,Ko,Km,Kk,Ki,(.pointer (some ⟨b17,0,none⟩)),(.pointer (some ⟨b18,0,none⟩)),Kc,Ka,K8,K6,(.int .i64 x),K1,LZ,LX,LV,LT,LR,LP,LN,LK,LI,LG,LE,LC,Lz,Lx,Lv,Lt,Lr,Lp,Ln,Ll,Lj,Lh,Lf,Ld,Lb,L6,MY,MW,MU,MS,MQ,MO,MM,MK,MI,MG,ME,MC,MA,My,Mw,Mu,Ms,Mq,Mo,Mm,Mk,Mi,Mg,Me,Mc,Ma,M8,M6,M4,M2,M0,NY,NW,NU,NS,NQ,NO,NL,NJ,NH,NF,ND,NB,Nz,Nx,Nv,Nt,Nr,Np,Nn,Nl,Nj,Nh,Nf,Nc,Na,N8,N6,N4,N2,OZ,OX,OV,OT,OR,OP,ON,OL,OJ,OH,OF,OD,OB,Oz,Ox,Ov,Ot,Oo,Om,Ok,Oi,Og,Oe,Oc,Oa,O8,O6,O4,O2,O0,PY,PW,PU,PS,PQ,PO,PM,PK,PI,PG,PE,PC,PA,Py,Pw,Pu,Ps,Pq,Po,Pm,Pj,Ph,Pf,Pd,Pb,P9,P7,P5,P3,P1,QZ,QX,QV,QT,QR,QP,QN,QL,QJ,QH,QF,QD,QB,Qz,Qx,Qv,Qt,Qr,Qp,Qn,Ql,Qj,Qh,Qf,Qd,Qb,Q9,RY,RV,RT,RR,RP,RM,RG,RE,Rz,Rx,Rv,Rt,Rr,Rp,Rl,Rj,Rh,Rf,Rc,Ra,R8,R5,SZ,SX,SV,ST,SR,SP,SN,SL,SJ,SH,SF,SD,SB,Sz,Sw,Su,Ss,Sq,So,Sm,Sj,Sh,Sf,Sd,Sb,S9,S7,S5,TZ,TX,TV,TT,TR,TP,TN,TL,TJ,TH,TF,TD,TB,Tz,Tw,Tu,Ts,Tq,To,Tm,Th,Tf,Td,Tb,UZ,UX,UV,UT,UR,UP,UN,UL,UJ,UH,UF,UD,UB,Uz,Ux,Uv,Ut,Ur,Up,Un,Ul,Uj,Uh,Uf,Ud,Ub,U9,U7,U5,U3,U1,VZ,VX,VV,VT,VR,VP,VN,VL,VJ,VH,VF,VD,VB,Vz,Vx,Vv,Vt,Vr,Vp,Vn,Vl,Vj,Vh,Vf,Vd].toArray,[]⟩ W:=by
 subst hC
 subst h10
 replace hQ:=zH hQ
 conv=>arg 2;whnf
 obtain ⟨h17,Gj,Tj,Aj,nj,Fj,hWj,hx17,hx18⟩:=hW
 have hWs:=hWj.size
 have e17:=(hWj.ee b17 (.inl rfl))
 have e18:=(hWj.ee b18 (.inr rfl))
 obtain ⟨cj,fj,zj⟩:=blk hx18
 obtain ⟨ca,fa,za⟩:=blk hx17
 obtain ⟨cd,fd,zd⟩:=blk hWj.dp.blk
 have HT:=zH (fun V (hb:Below W.heap.size W V)=>refTell Gj w.heap.size V d Tj (hWj.ext hb).dp.dom (fun i b hi=>(hWj.dp.apart i b hi).2) (by have:=hb.size;omega) now x (j.task) (j.number) (by omega))
 have hWjh:=zH hWj
 clear hWj
 go_wp2_with fail
 go_at_call 57
 refine (HT.out _ byB).mono ?_
 rintro e w8 ⟨A8,n8,G8,rfl,hO8,hE8⟩
 have hP:=WmJ.put h17 hWjh.out hx17 hx18 hO8 hE8
 dsimp only at hP
 simp only [List.length_append,List.length_cons,List.length_nil,Nat.zero_add] at hP
 obtain ⟨cx8,fx8,zx8⟩:=blk hP.2
 have hJ8:=zH hP.1
 clear hP hO8 hE8 HT hx17 hx18
 go_wp2_with fail
 exact hQ.out _ _ _ _ _ _ _ _ _ hJ8.out
theorem wofR43 (C:Code)(hC:C=stOf (regionNo 43)){w:World}{c:TCfg}{S:TCfgS}{b17 b18 g10:Nat}{a:TAct}{d:TDom}{k:List (List TWay)}{j:TJob}{W:World}{m now:Int}{r:Int}(h10:g10=w.heap.size+2)(hW:WmJ w c S b17 b18 a d k j W)(hev:d.events.length+1≤4398046511104)(hr:r=now - now % c.quantum)(hnow:0≤now∧now≤100000)(hq:1≤c.quantum∧c.quantum≤100000)
  {Q:Exit→Act→World→Prop}
  (hQ:∀(TI TG TE TC TA Ty Tv Tt Tr Tp:Value) (W':World),(WmJ w c S b17 b18 a (tellOf d now 7 (r) (0)) k j W')→Q .normal ⟨[KZ,(.int .i64 m),KU,KS,KO,(.int .i64 now),KI,(.pointer (some ⟨w.heap.size,0,none⟩)),Kz,(.pointer (some ⟨w.heap.size+1,0,none⟩)),(.pointer (some ⟨g10,0,none⟩)),Kt,Kr,Ko,Km,Kk,Ki,(.pointer (some ⟨b17,0,none⟩)),(.pointer (some ⟨b18,0,none⟩)),Kc,Ka,K8,K6,K4,K1,LZ,LX,LV,LT,LR,LP,LN,LK,LI,LG,LE,LC,Lz,Lx,Lv,Lt,Lr,Lp,Ln,Ll,Lj,Lh,Lf,Ld,Lb,L6,MY,MW,MU,MS,MQ,MO,MM,MK,MI,MG,ME,MC,MA,My,Mw,Mu,Ms,Mq,Mo,Mm,Mk,Mi,Mg,Me,Mc,Ma,M8,M6,M4,M2,M0,NY,NW,NU,NS,NQ,NO,NL,NJ,NH,NF,ND,NB,Nz,Nx,Nv,Nt,Nr,Np,Nn,Nl,Nj,Nh,Nf,Nc,Na,N8,N6,N4,N2,OZ,OX,OV,OT,OR,OP,ON,OL,OJ,OH,OF,OD,OB,Oz,Ox,Ov,Ot,Oo,Om,Ok,Oi,Og,Oe,Oc,Oa,O8,O6,O4,O2,O0,PY,PW,PU,PS,PQ,PO,PM,PK,PI,PG,PE,PC,PA,Py,Pw,Pu,Ps,Pq,Po,Pm,Pj,Ph,Pf,Pd,Pb,P9,P7,P5,P3,P1,QZ,QX,QV,QT,QR,QP,QN,QL,QJ,QH,QF,QD,QB,Qz,Qx,Qv,Qt,Qr,Qp,Qn,Ql,Qj,Qh,Qf,Qd,Qb,Q9,RY,RV,RT,RR,RP,RM,RG,RE,Rz,Rx,Rv,Rt,Rr,Rp,Rl,Rj,Rh,Rf,Rc,Ra,R8,R5,SZ,SX,SV,ST,SR,SP,SN,SL,SJ,SH,SF,SD,SB,Sz,Sw,Su,Ss,Sq,So,Sm,Sj,Sh,Sf,Sd,Sb,S9,S7,S5,TZ,TX,TV,TT,TR,TP,TN,TL,TI,TG,TE,TC,TA,Ty,Tv,Tt,Tr,Tp,To,Tm,Th,Tf,Td,Tb,UZ,UX,UV,UT,UR,UP,UN,UL,UJ,UH,UF,UD,UB,Uz,Ux,Uv,Ut,Ur,Up,Un,Ul,Uj,Uh,Uf,Ud,Ub,U9,U7,U5,U3,U1,VZ,VX,VV,VT,VR,VP,VN,VL,VJ,VH,VF,VD,VB,Vz,Vx,Vv,Vt,Vr,Vp,Vn,Vl,Vj,Vh,Vf,Vd].toArray,[]⟩ W'):
  Code.wp Try.prog C Q ⟨[KZ,(.int .i64 m),KU,KS,KO,(.int .i64 now),KI,(.pointer (some ⟨w.heap.size,0,none⟩)),Kz,(.pointer (some ⟨w.heap.size+1,0,none⟩)),(.pointer (some ⟨g10,0,none⟩)),Kt,Kr,Ko,Km,Kk,Ki,(.pointer (some ⟨b17,0,none⟩)),(.pointer (some ⟨b18,0,none⟩)),Kc,Ka,K8,K6,K4,K1,LZ,LX,LV,LT,LR,LP,LN,LK,LI,LG,LE,LC,Lz,Lx,Lv,Lt,Lr,Lp,Ln,Ll,Lj,Lh,Lf,Ld,Lb,L6,MY,MW,MU,MS,MQ,MO,MM,MK,MI,MG,ME,MC,MA,My,Mw,Mu,Ms,Mq,Mo,Mm,Mk,Mi,Mg,Me,Mc,Ma,M8,M6,M4,M2,M0,NY,NW,NU,NS,NQ,NO,NL,NJ,NH,NF,ND,NB,Nz,Nx,Nv,Nt,Nr,Np,Nn,Nl,Nj,Nh,Nf,Nc,Na,N8,N6,N4,N2,OZ,OX,OV,OT,OR,OP,ON,OL,OJ,OH,OF,OD,OB,Oz,Ox,Ov,Ot,Oo,Om,Ok,Oi,Og,Oe,Oc,Oa,O8,O6,O4,O2,O0,PY,PW,PU,PS,PQ,PO,PM,PK,PI,PG,PE,PC,PA,Py,Pw,Pu,Ps,Pq,Po,Pm,Pj,Ph,Pf,Pd,Pb,P9,P7,P5,P3,P1,QZ,QX,QV,QT,QR,QP,QN,QL,QJ,QH,QF,QD,QB,Qz,Qx,Qv,Qt,Qr,Qp,Qn,Ql,Qj,Qh,Qf,Qd,Qb,Q9,RY,RV,RT,RR,RP,RM,RG,RE,Rz,Rx,Rv,Rt,Rr,Rp,Rl,Rj,Rh,Rf,Rc,Ra,R8,R5,SZ,SX,SV,ST,SR,SP,SN,SL,SJ,SH,SF,SD,SB,Sz,Sw,Su,Ss,Sq,So,Sm,Sj,Sh,Sf,Sd,Sb,S9,S7,S5,TZ,TX,TV,TT,TR,TP,TN,TL,TJ,TH,TF,TD,TB,Tz,Tw,Tu,Ts,Tq,To,Tm,Th,Tf,Td,Tb,UZ,UX,UV,UT,UR,UP,UN,UL,UJ,UH,UF,UD,UB,Uz,Ux,Uv,Ut,Ur,Up,Un,Ul,Uj,Uh,Uf,Ud,Ub,U9,U7,U5,U3,U1,VZ,VX,VV,VT,VR,VP,VN,VL,VJ,VH,VF,VD,VB,Vz,Vx,Vv,Vt,Vr,Vp,Vn,Vl,Vj,Vh,Vf,Vd].toArray,[]⟩ W:=by
 subst hC
 subst h10
 replace hQ:=zH hQ
 conv=>arg 2;whnf
 obtain ⟨h17,Gj,Tj,Aj,nj,Fj,hWj,hx17,hx18⟩:=hW
 have hWs:=hWj.size
 have e17:=(hWj.ee b17 (.inl rfl))
 have e18:=(hWj.ee b18 (.inr rfl))
 obtain ⟨cj,fj,zj⟩:=blk hx18
 obtain ⟨ca,fa,za⟩:=blk hx17
 obtain ⟨cd,fd,zd⟩:=blk hWj.dp.blk
 obtain ⟨n0,n1⟩:=hnow
 obtain ⟨q0,q1⟩:=hq
 have q2:¬ c.quantum=0:=by omega
 have q9:(c.quantum==0)=false:=by simpa using q2
 obtain ⟨qd,hqd⟩:∃qd,qd=now / c.quantum:=⟨_,rfl⟩
 have q3:now.tdiv c.quantum=qd:=by rw [hqd];exact Int.tdiv_eq_ediv_of_nonneg n0
 have h5:=Int.mul_ediv_add_emod now c.quantum
 have h7:=Int.emod_nonneg now (show c.quantum≠0 by omega)
 rw [← hqd,Int.mul_comm] at h5
 have q4:0≤qd:=by rw [hqd];exact Int.ediv_nonneg n0 (by omega)
 have q5:qd≤100000:=by rw [hqd];exact Int.le_trans (Int.ediv_le_self _ n0) n1
 have h8:0≤qd*c.quantum:=Int.mul_nonneg q4 (by omega)
 have q6:IntKind.i64.wrap qd=qd:=IntWalk.i64_in _ (by omega)
 have q7:IntKind.i64.wrap (qd*c.quantum)=r:=by rw [IntWalk.i64_in _ (by omega)];omega
 clear hr hqd h5 h7 h8
 have b0:=hWj.b0
 obtain ⟨c0,f0,z0⟩:=blk b0
 have HT:=zH (fun V (hb:Below W.heap.size W V)=>refTell Gj w.heap.size V d Tj (hWj.ext hb).dp.dom (fun i b hi=>(hWj.dp.apart i b hi).2) (by have:=hb.size;omega) now 7 (r) (0) (by omega))
 have hWjh:=zH hWj
 clear hWj
 (refine wp_region_still_tail 9 (by kernel_rfl) (by kernel_rfl) ?_;simp only [List.take_succ_cons,List.take_zero,List.drop_succ_cons,List.drop_zero];(iterate 9 (with_reducible refine wpStill_step (fun K hK=>?_);replace hK:=zH hK;go_simp;with_reducible refine hK.out _ ?_;clear hK K));refine wpStill_nil ?_)
 go_wp2_with fail
 go_at_call 57
 refine (HT.out _ byB).mono ?_
 rintro e w8 ⟨A8,n8,G8,rfl,hO8,hE8⟩
 have hP:=WmJ.put h17 (hWjh.out.ext (Below.refl _ _).drew) hx17 hx18 hO8 hE8
 dsimp only at hP
 simp only [List.length_append,List.length_cons,List.length_nil,Nat.zero_add] at hP
 obtain ⟨cx8,fx8,zx8⟩:=blk hP.2
 have hJ8:=zH hP.1
 clear hP hO8 hE8 HT hx17 hx18
 go_wp2_with fail
 exact hQ.out _ _ _ _ _ _ _ _ _ _ _ hJ8.out
theorem wofR45 (C:Code)(hC:C=stOf (regionNo 45)){w:World}{c:TCfg}{S:TCfgS}{b17 b18 g10:Nat}{a:TAct}{d:TDom}{k:List (List TWay)}{j:TJob}{W:World}{m now:Int}{i:Nat}(h10:g10=w.heap.size+2)(hW:WmJ w c S b17 b18 a d k j W)(hev:d.events.length+1≤4398046511104)(hai:a.n=(i:Int))(hi:i < d.taken.length)
  {Q:Exit→Act→World→Prop}
  (hQ:∀(Tc Ta UY UW UU US UQ UO UM UK UI:Value) (W':World),(WmJ w c S b17 b18 a (tellOf d now 10 ((i:Nat)) (nth d.taken i)) k j W')→Q .normal ⟨[KZ,(.int .i64 m),KU,KS,KO,(.int .i64 now),KI,(.pointer (some ⟨w.heap.size,0,none⟩)),Kz,(.pointer (some ⟨w.heap.size+1,0,none⟩)),(.pointer (some ⟨g10,0,none⟩)),Kt,Kr,Ko,Km,Kk,Ki,(.pointer (some ⟨b17,0,none⟩)),(.pointer (some ⟨b18,0,none⟩)),Kc,Ka,K8,K6,K4,K1,LZ,LX,LV,LT,LR,LP,LN,LK,LI,LG,LE,LC,Lz,Lx,Lv,Lt,Lr,Lp,Ln,Ll,Lj,Lh,Lf,Ld,Lb,L6,MY,MW,MU,MS,MQ,MO,MM,MK,MI,MG,ME,MC,MA,My,Mw,Mu,Ms,Mq,Mo,Mm,Mk,Mi,Mg,Me,Mc,Ma,M8,M6,M4,M2,M0,NY,NW,NU,NS,NQ,NO,NL,NJ,NH,NF,ND,NB,Nz,Nx,Nv,Nt,Nr,Np,Nn,Nl,Nj,Nh,Nf,Nc,Na,N8,N6,N4,N2,OZ,OX,OV,OT,OR,OP,ON,OL,OJ,OH,OF,OD,OB,Oz,Ox,Ov,Ot,Oo,Om,Ok,Oi,Og,Oe,Oc,Oa,O8,O6,O4,O2,O0,PY,PW,PU,PS,PQ,PO,PM,PK,PI,PG,PE,PC,PA,Py,Pw,Pu,Ps,Pq,Po,Pm,Pj,Ph,Pf,Pd,Pb,P9,P7,P5,P3,P1,QZ,QX,QV,QT,QR,QP,QN,QL,QJ,QH,QF,QD,QB,Qz,Qx,Qv,Qt,Qr,Qp,Qn,Ql,Qj,Qh,Qf,Qd,Qb,Q9,RY,RV,RT,RR,RP,RM,RG,RE,Rz,Rx,Rv,Rt,Rr,Rp,Rl,Rj,Rh,Rf,Rc,Ra,R8,R5,SZ,SX,SV,ST,SR,SP,SN,SL,SJ,SH,SF,SD,SB,Sz,Sw,Su,Ss,Sq,So,Sm,Sj,Sh,Sf,Sd,Sb,S9,S7,S5,TZ,TX,TV,TT,TR,TP,TN,TL,TJ,TH,TF,TD,TB,Tz,Tw,Tu,Ts,Tq,To,Tm,Th,Tf,Tc,Ta,UY,UW,UU,US,UQ,UO,UM,UK,UI,UH,UF,UD,UB,Uz,Ux,Uv,Ut,Ur,Up,Un,Ul,Uj,Uh,Uf,Ud,Ub,U9,U7,U5,U3,U1,VZ,VX,VV,VT,VR,VP,VN,VL,VJ,VH,VF,VD,VB,Vz,Vx,Vv,Vt,Vr,Vp,Vn,Vl,Vj,Vh,Vf,Vd].toArray,[]⟩ W'):
  Code.wp Try.prog C Q ⟨[KZ,(.int .i64 m),KU,KS,KO,(.int .i64 now),KI,(.pointer (some ⟨w.heap.size,0,none⟩)),Kz,(.pointer (some ⟨w.heap.size+1,0,none⟩)),(.pointer (some ⟨g10,0,none⟩)),Kt,Kr,Ko,Km,Kk,Ki,(.pointer (some ⟨b17,0,none⟩)),(.pointer (some ⟨b18,0,none⟩)),Kc,Ka,K8,K6,K4,K1,LZ,LX,LV,LT,LR,LP,LN,LK,LI,LG,LE,LC,Lz,Lx,Lv,Lt,Lr,Lp,Ln,Ll,Lj,Lh,Lf,Ld,Lb,L6,MY,MW,MU,MS,MQ,MO,MM,MK,MI,MG,ME,MC,MA,My,Mw,Mu,Ms,Mq,Mo,Mm,Mk,Mi,Mg,Me,Mc,Ma,M8,M6,M4,M2,M0,NY,NW,NU,NS,NQ,NO,NL,NJ,NH,NF,ND,NB,Nz,Nx,Nv,Nt,Nr,Np,Nn,Nl,Nj,Nh,Nf,Nc,Na,N8,N6,N4,N2,OZ,OX,OV,OT,OR,OP,ON,OL,OJ,OH,OF,OD,OB,Oz,Ox,Ov,Ot,Oo,Om,Ok,Oi,Og,Oe,Oc,Oa,O8,O6,O4,O2,O0,PY,PW,PU,PS,PQ,PO,PM,PK,PI,PG,PE,PC,PA,Py,Pw,Pu,Ps,Pq,Po,Pm,Pj,Ph,Pf,Pd,Pb,P9,P7,P5,P3,P1,QZ,QX,QV,QT,QR,QP,QN,QL,QJ,QH,QF,QD,QB,Qz,Qx,Qv,Qt,Qr,Qp,Qn,Ql,Qj,Qh,Qf,Qd,Qb,Q9,RY,RV,RT,RR,RP,RM,RG,RE,Rz,Rx,Rv,Rt,Rr,Rp,Rl,Rj,Rh,Rf,Rc,Ra,R8,R5,SZ,SX,SV,ST,SR,SP,SN,SL,SJ,SH,SF,SD,SB,Sz,Sw,Su,Ss,Sq,So,Sm,Sj,Sh,Sf,Sd,Sb,S9,S7,S5,TZ,TX,TV,TT,TR,TP,TN,TL,TJ,TH,TF,TD,TB,Tz,Tw,Tu,Ts,Tq,To,Tm,Th,Tf,Td,Tb,UZ,UX,UV,UT,UR,UP,UN,UL,UJ,UH,UF,UD,UB,Uz,Ux,Uv,Ut,Ur,Up,Un,Ul,Uj,Uh,Uf,Ud,Ub,U9,U7,U5,U3,U1,VZ,VX,VV,VT,VR,VP,VN,VL,VJ,VH,VF,VD,VB,Vz,Vx,Vv,Vt,Vr,Vp,Vn,Vl,Vj,Vh,Vf,Vd].toArray,[]⟩ W:=by
 subst hC
 subst h10
 replace hQ:=zH hQ
 conv=>arg 2;whnf
 obtain ⟨h17,Gj,Tj,Aj,nj,Fj,hWj,hx17,hx18⟩:=hW
 have hWs:=hWj.size
 have e17:=(hWj.ee b17 (.inl rfl))
 have e18:=(hWj.ee b18 (.inr rfl))
 obtain ⟨cj,fj,zj⟩:=blk hx18
 obtain ⟨ca,fa,za⟩:=blk hx17
 obtain ⟨cd,fd,zd⟩:=blk hWj.dp.blk
 have hx17i:=hx17
 rw [hai] at hx17i
 obtain ⟨cai,fai,zai⟩:=blk hx17i
 clear ca hai hx17i
 obtain ⟨gt,et,_,hgt,hgne,tc,_,_⟩:=hWj.taken hi
 have i0:(0:Int)≤(i:Int):=by omega
 have i1:(i:Int) < d.taken.length:=by omega
 have bd:=hWj.dp.blk
 rw [et] at bd
 obtain ⟨cd2,fd2,zd2⟩:=blk bd
 clear cd bd
 have HT:=zH (fun V (hb:Below W.heap.size W V)=>refTell Gj w.heap.size V d Tj (hWj.ext hb).dp.dom (fun i b hi=>(hWj.dp.apart i b hi).2) (by have:=hb.size;omega) now 10 ((i:Nat)) (nth d.taken i) (by omega))
 have hWjh:=zH hWj
 clear hWj
 simp only [et] at HT
 replace et:=zH et
 (refine wp_region_still_tail 10 (by kernel_rfl) (by kernel_rfl) ?_;simp only [List.take_succ_cons,List.take_zero,List.drop_succ_cons,List.drop_zero];(iterate 10 (with_reducible refine wpStill_step (fun K hK=>?_);replace hK:=zH hK;go_simp;with_reducible refine hK.out _ ?_;clear hK K));refine wpStill_nil ?_)
 go_wp2_with fail
 go_at_call 57
 refine (HT.out _ byB).mono ?_
 rintro e w8 ⟨A8,n8,G8,rfl,hO8,hE8⟩
 have hP:=WmJ.put h17 (hWjh.out.ext (Below.refl _ _).drew) hx17 hx18 hO8 hE8
 dsimp only at hP
 simp only [List.length_append,List.length_cons,List.length_nil,Nat.zero_add,et.out] at hP
 obtain ⟨cx8,fx8,zx8⟩:=blk hP.2
 have hJ8:=zH hP.1
 clear hP hO8 hE8 HT hx17 hx18
 go_wp2_with fail
 exact hQ.out _ _ _ _ _ _ _ _ _ _ _ _ hJ8.out
theorem wofR46 (C:Code)(hC:C=stOf (regionNo 46)){w:World}{c:TCfg}{S:TCfgS}{b17 b18 g10:Nat}{a:TAct}{d:TDom}{k:List (List TWay)}{j:TJob}{W:World}{m now:Int}{i:Nat}(h10:g10=w.heap.size+2)(hW:WmJ w c S b17 b18 a d k j W)(hai:a.n=(i:Int))(hi:i < d.taken.length)
  {Q:Exit→Act→World→Prop}
  (hQ:∀(UG UE UC UA Uy:Value) (W':World),(WmJ w c S b17 b18 a {d with taken:=d.taken.set i 0} k j W')→Q .normal ⟨[KZ,(.int .i64 m),KU,KS,KO,KM,KI,(.pointer (some ⟨w.heap.size,0,none⟩)),Kz,(.pointer (some ⟨w.heap.size+1,0,none⟩)),(.pointer (some ⟨g10,0,none⟩)),Kt,Kr,Ko,Km,Kk,Ki,(.pointer (some ⟨b17,0,none⟩)),(.pointer (some ⟨b18,0,none⟩)),Kc,Ka,K8,K6,K4,K1,LZ,LX,LV,LT,LR,LP,LN,LK,LI,LG,LE,LC,Lz,Lx,Lv,Lt,Lr,Lp,Ln,Ll,Lj,Lh,Lf,Ld,Lb,L6,MY,MW,MU,MS,MQ,MO,MM,MK,MI,MG,ME,MC,MA,My,Mw,Mu,Ms,Mq,Mo,Mm,Mk,Mi,Mg,Me,Mc,Ma,M8,M6,M4,M2,M0,NY,NW,NU,NS,NQ,NO,NL,NJ,NH,NF,ND,NB,Nz,Nx,Nv,Nt,Nr,Np,Nn,Nl,Nj,Nh,Nf,Nc,Na,N8,N6,N4,N2,OZ,OX,OV,OT,OR,OP,ON,OL,OJ,OH,OF,OD,OB,Oz,Ox,Ov,Ot,Oo,Om,Ok,Oi,Og,Oe,Oc,Oa,O8,O6,O4,O2,O0,PY,PW,PU,PS,PQ,PO,PM,PK,PI,PG,PE,PC,PA,Py,Pw,Pu,Ps,Pq,Po,Pm,Pj,Ph,Pf,Pd,Pb,P9,P7,P5,P3,P1,QZ,QX,QV,QT,QR,QP,QN,QL,QJ,QH,QF,QD,QB,Qz,Qx,Qv,Qt,Qr,Qp,Qn,Ql,Qj,Qh,Qf,Qd,Qb,Q9,RY,RV,RT,RR,RP,RM,RG,RE,Rz,Rx,Rv,Rt,Rr,Rp,Rl,Rj,Rh,Rf,Rc,Ra,R8,R5,SZ,SX,SV,ST,SR,SP,SN,SL,SJ,SH,SF,SD,SB,Sz,Sw,Su,Ss,Sq,So,Sm,Sj,Sh,Sf,Sd,Sb,S9,S7,S5,TZ,TX,TV,TT,TR,TP,TN,TL,TJ,TH,TF,TD,TB,Tz,Tw,Tu,Ts,Tq,To,Tm,Th,Tf,Td,Tb,UZ,UX,UV,UT,UR,UP,UN,UL,UJ,UG,UE,UC,UA,Uy,Ux,Uv,Ut,Ur,Up,Un,Ul,Uj,Uh,Uf,Ud,Ub,U9,U7,U5,U3,U1,VZ,VX,VV,VT,VR,VP,VN,VL,VJ,VH,VF,VD,VB,Vz,Vx,Vv,Vt,Vr,Vp,Vn,Vl,Vj,Vh,Vf,Vd].toArray,[]⟩ W'):
  Code.wp Try.prog C Q ⟨[KZ,(.int .i64 m),KU,KS,KO,KM,KI,(.pointer (some ⟨w.heap.size,0,none⟩)),Kz,(.pointer (some ⟨w.heap.size+1,0,none⟩)),(.pointer (some ⟨g10,0,none⟩)),Kt,Kr,Ko,Km,Kk,Ki,(.pointer (some ⟨b17,0,none⟩)),(.pointer (some ⟨b18,0,none⟩)),Kc,Ka,K8,K6,K4,K1,LZ,LX,LV,LT,LR,LP,LN,LK,LI,LG,LE,LC,Lz,Lx,Lv,Lt,Lr,Lp,Ln,Ll,Lj,Lh,Lf,Ld,Lb,L6,MY,MW,MU,MS,MQ,MO,MM,MK,MI,MG,ME,MC,MA,My,Mw,Mu,Ms,Mq,Mo,Mm,Mk,Mi,Mg,Me,Mc,Ma,M8,M6,M4,M2,M0,NY,NW,NU,NS,NQ,NO,NL,NJ,NH,NF,ND,NB,Nz,Nx,Nv,Nt,Nr,Np,Nn,Nl,Nj,Nh,Nf,Nc,Na,N8,N6,N4,N2,OZ,OX,OV,OT,OR,OP,ON,OL,OJ,OH,OF,OD,OB,Oz,Ox,Ov,Ot,Oo,Om,Ok,Oi,Og,Oe,Oc,Oa,O8,O6,O4,O2,O0,PY,PW,PU,PS,PQ,PO,PM,PK,PI,PG,PE,PC,PA,Py,Pw,Pu,Ps,Pq,Po,Pm,Pj,Ph,Pf,Pd,Pb,P9,P7,P5,P3,P1,QZ,QX,QV,QT,QR,QP,QN,QL,QJ,QH,QF,QD,QB,Qz,Qx,Qv,Qt,Qr,Qp,Qn,Ql,Qj,Qh,Qf,Qd,Qb,Q9,RY,RV,RT,RR,RP,RM,RG,RE,Rz,Rx,Rv,Rt,Rr,Rp,Rl,Rj,Rh,Rf,Rc,Ra,R8,R5,SZ,SX,SV,ST,SR,SP,SN,SL,SJ,SH,SF,SD,SB,Sz,Sw,Su,Ss,Sq,So,Sm,Sj,Sh,Sf,Sd,Sb,S9,S7,S5,TZ,TX,TV,TT,TR,TP,TN,TL,TJ,TH,TF,TD,TB,Tz,Tw,Tu,Ts,Tq,To,Tm,Th,Tf,Td,Tb,UZ,UX,UV,UT,UR,UP,UN,UL,UJ,UH,UF,UD,UB,Uz,Ux,Uv,Ut,Ur,Up,Un,Ul,Uj,Uh,Uf,Ud,Ub,U9,U7,U5,U3,U1,VZ,VX,VV,VT,VR,VP,VN,VL,VJ,VH,VF,VD,VB,Vz,Vx,Vv,Vt,Vr,Vp,Vn,Vl,Vj,Vh,Vf,Vd].toArray,[]⟩ W:=by
 subst hC
 subst h10
 replace hQ:=zH hQ
 conv=>arg 2;whnf
 obtain ⟨h17,Gj,Tj,Aj,nj,Fj,hWj,hx17,hx18⟩:=hW
 have hWs:=hWj.size
 have e17:=(hWj.ee b17 (.inl rfl))
 have e18:=(hWj.ee b18 (.inr rfl))
 obtain ⟨cj,fj,zj⟩:=blk hx18
 obtain ⟨ca,fa,za⟩:=blk hx17
 obtain ⟨cd,fd,zd⟩:=blk hWj.dp.blk
 have hx17i:=hx17
 rw [hai] at hx17i
 obtain ⟨cai,fai,zai⟩:=blk hx17i
 clear ca hai hx17i
 obtain ⟨gt,et,_,hgt,hgne,tc,tf,hset⟩:=hWj.taken hi
 have hN:=hset 0
 have hJ8:WmJ w c S b17 b18 a {d with taken:=d.taken.set i 0} k j _:=⟨h17,_,_,_,_,_,hN.1,(hN.2 _ (.inl rfl)).trans hx17,(hN.2 _ (.inr rfl)).trans hx18⟩
 replace hJ8:=zH hJ8
 have i0:(0:Int)≤(i:Int):=by omega
 have i1:(i:Int) < d.taken.length:=by omega
 have bd:=hWj.dp.blk
 rw [et] at bd
 obtain ⟨cd2,fd2,zd2⟩:=blk bd
 clear cd bd hN hset hWj hx17 hx18 cj
 go_wp2_with fail
 exact hQ.out _ _ _ _ _ _ hJ8.out
theorem set_nth_self {T:Type}[Inhabited T]{l:List T}{i:Nat}(hi:i < l.length):l.set i (nth l i)=l:=by
 have e:nth l i=l[i]:=by simp [nth,hi]
 rw [e];exact List.set_getElem_self hi
theorem wofT5 (C:Code)(hC:C=stOf (condOf 226)){w:World}{c:TCfg}{S:TCfgS}{b17 b18 g10:Nat}{a:TAct}{d:TDom}{k:List (List TWay)}{j:TJob}{W:World}{m now:Int}{i:Nat}(h10:g10=w.heap.size+2)(hW:WmJ w c S b17 b18 a d k j W)(hai:a.n=(i:Int))(hi:i < d.ins.length)(hv:(nth d.ins i).vals.length≤100000)(hev:d.events.length+1≤4398046511104)
  {Q:Exit→Act→World→Prop}
  (hQ:∀(K7 K5 SE SC SA Sy Sv St Sr Sp Sn Sk Si Sg Se Sc Sa S8 S6 S3 TY TW TU TS:Value) (W':World),(WmJ w c S b17 b18 a (tellOf {d with ins:=d.ins.set i (takeR (nth d.ins i))} now 8 a.n (takeV (nth d.ins i).vals)) k j W')→Q .normal ⟨[KZ,(.int .i64 m),KU,KS,KO,(.int .i64 now),KI,(.pointer (some ⟨w.heap.size,0,none⟩)),Kz,(.pointer (some ⟨w.heap.size+1,0,none⟩)),(.pointer (some ⟨g10,0,none⟩)),Kt,Kr,Ko,Km,Kk,Ki,(.pointer (some ⟨b17,0,none⟩)),(.pointer (some ⟨b18,0,none⟩)),Kc,Ka,K7,K5,K4,K1,LZ,LX,LV,LT,LR,LP,LN,LK,LI,LG,LE,LC,Lz,Lx,Lv,Lt,Lr,Lp,Ln,Ll,Lj,Lh,Lf,Ld,Lb,L6,MY,MW,MU,MS,MQ,MO,MM,MK,MI,MG,ME,MC,MA,My,Mw,Mu,Ms,Mq,Mo,Mm,Mk,Mi,Mg,Me,Mc,Ma,M8,M6,M4,M2,M0,NY,NW,NU,NS,NQ,NO,NL,NJ,NH,NF,ND,NB,Nz,Nx,Nv,Nt,Nr,Np,Nn,Nl,Nj,Nh,Nf,Nc,Na,N8,N6,N4,N2,OZ,OX,OV,OT,OR,OP,ON,OL,OJ,OH,OF,OD,OB,Oz,Ox,Ov,Ot,Oo,Om,Ok,Oi,Og,Oe,Oc,Oa,O8,O6,O4,O2,O0,PY,PW,PU,PS,PQ,PO,PM,PK,PI,PG,PE,PC,PA,Py,Pw,Pu,Ps,Pq,Po,Pm,Pj,Ph,Pf,Pd,Pb,P9,P7,P5,P3,P1,QZ,QX,QV,QT,QR,QP,QN,QL,QJ,QH,QF,QD,QB,Qz,Qx,Qv,Qt,Qr,Qp,Qn,Ql,Qj,Qh,Qf,Qd,Qb,Q9,RY,RV,RT,RR,RP,RM,RG,RE,Rz,Rx,Rv,Rt,Rr,Rp,Rl,Rj,Rh,Rf,Rc,Ra,R8,R5,SZ,SX,SV,ST,SR,SP,(.bool true),SL,SJ,SH,SE,SC,SA,Sy,Sv,St,Sr,Sp,Sn,Sk,Si,Sg,Se,Sc,Sa,S8,S6,S3,TY,TW,TU,TS,TR,TP,TN,TL,TJ,TH,TF,TD,TB,Tz,Tw,Tu,Ts,Tq,To,Tm,Th,Tf,Td,Tb,UZ,UX,UV,UT,UR,UP,UN,UL,UJ,UH,UF,UD,UB,Uz,Ux,Uv,Ut,Ur,Up,Un,Ul,Uj,Uh,Uf,Ud,Ub,U9,U7,U5,U3,U1,VZ,VX,VV,VT,VR,VP,VN,VL,VJ,VH,VF,VD,VB,Vz,Vx,Vv,Vt,Vr,Vp,Vn,Vl,Vj,Vh,Vf,Vd].toArray,[]⟩ W'):
  Code.wp Try.prog C Q ⟨[KZ,(.int .i64 m),KU,KS,KO,(.int .i64 now),KI,(.pointer (some ⟨w.heap.size,0,none⟩)),Kz,(.pointer (some ⟨w.heap.size+1,0,none⟩)),(.pointer (some ⟨g10,0,none⟩)),Kt,Kr,Ko,Km,Kk,Ki,(.pointer (some ⟨b17,0,none⟩)),(.pointer (some ⟨b18,0,none⟩)),Kc,Ka,K8,K6,K4,K1,LZ,LX,LV,LT,LR,LP,LN,LK,LI,LG,LE,LC,Lz,Lx,Lv,Lt,Lr,Lp,Ln,Ll,Lj,Lh,Lf,Ld,Lb,L6,MY,MW,MU,MS,MQ,MO,MM,MK,MI,MG,ME,MC,MA,My,Mw,Mu,Ms,Mq,Mo,Mm,Mk,Mi,Mg,Me,Mc,Ma,M8,M6,M4,M2,M0,NY,NW,NU,NS,NQ,NO,NL,NJ,NH,NF,ND,NB,Nz,Nx,Nv,Nt,Nr,Np,Nn,Nl,Nj,Nh,Nf,Nc,Na,N8,N6,N4,N2,OZ,OX,OV,OT,OR,OP,ON,OL,OJ,OH,OF,OD,OB,Oz,Ox,Ov,Ot,Oo,Om,Ok,Oi,Og,Oe,Oc,Oa,O8,O6,O4,O2,O0,PY,PW,PU,PS,PQ,PO,PM,PK,PI,PG,PE,PC,PA,Py,Pw,Pu,Ps,Pq,Po,Pm,Pj,Ph,Pf,Pd,Pb,P9,P7,P5,P3,P1,QZ,QX,QV,QT,QR,QP,QN,QL,QJ,QH,QF,QD,QB,Qz,Qx,Qv,Qt,Qr,Qp,Qn,Ql,Qj,Qh,Qf,Qd,Qb,Q9,RY,RV,RT,RR,RP,RM,RG,RE,Rz,Rx,Rv,Rt,Rr,Rp,Rl,Rj,Rh,Rf,Rc,Ra,R8,R5,SZ,SX,SV,ST,SR,SP,(.bool true),SL,SJ,SH,SF,SD,SB,Sz,Sw,Su,Ss,Sq,So,Sm,Sj,Sh,Sf,Sd,Sb,S9,S7,S5,TZ,TX,TV,TT,TR,TP,TN,TL,TJ,TH,TF,TD,TB,Tz,Tw,Tu,Ts,Tq,To,Tm,Th,Tf,Td,Tb,UZ,UX,UV,UT,UR,UP,UN,UL,UJ,UH,UF,UD,UB,Uz,Ux,Uv,Ut,Ur,Up,Un,Ul,Uj,Uh,Uf,Ud,Ub,U9,U7,U5,U3,U1,VZ,VX,VV,VT,VR,VP,VN,VL,VJ,VH,VF,VD,VB,Vz,Vx,Vv,Vt,Vr,Vp,Vn,Vl,Vj,Vh,Vf,Vd].toArray,[]⟩ W:=by
 subst hC
 subst h10
 replace hQ:=zH hQ
 conv=>arg 2;whnf
 obtain ⟨h17,Gj,Tj,Aj,nj,Fj,hWj,hx17,hx18⟩:=hW
 have hWs:=hWj.size
 have e17:=(hWj.ee b17 (.inl rfl))
 have e18:=(hWj.ee b18 (.inr rfl))
 obtain ⟨cj,fj,zj⟩:=blk hx18
 obtain ⟨ca,fa,za⟩:=blk hx17
 obtain ⟨cd,fd,zd⟩:=blk hWj.dp.blk
 have hx17i:=hx17
 rw [hai] at hx17i
 obtain ⟨cai,fai,zai⟩:=blk hx17i
 have hai2:=zH hai
 obtain ⟨gt,Ar,cr,et,hGt,hgt,hgne,t0,t1,tf,hsl,hset⟩:=hWj.ring hi
 have hlo:=hWj.gg 2 gt hGt
 have i0:(0:Int)≤(i:Int):=by omega
 have i1:(i:Int) < d.ins.length:=by omega
 have bd:=hWj.dp.blk
 rw [et] at bd
 obtain ⟨cd2,fd2,zd2⟩:=blk bd
 have HM:=zH (fun V (hb:Below W.heap.size W V)=>refReceiveZ (nth d.ins i).vals (nth d.ins i).lost Ar cr W.heap.size V hb.size ((hsl.mono fun b hb=>hWj.dp.dom.lt 2 b hb).keep fun b hb1=>hb.block b hb1) (by omega))
 have hWjh:=zH (⟨hWj,hx17,hx18,hset,bd,hsl⟩:_∧_∧_∧_∧_∧_)
 replace et:=zH et
 clear hWj hx17 hx18 hset bd hsl cd ca hai hx17i cj
 go_wp2_with fail
 go_at_call 76
 refine (HM.out _ byB).mono ?_
 rintro e w8 ⟨A8,c8,rfl,-,hb8,hor⟩
 have hb9:Below W.heap.size W w8:=byB
 have s8:=hb9.size
 have c17:=(hb9.block _ zai)
 obtain ⟨hWj2,hx17,hx18,hset,bd,-⟩:=hWjh.out
 go_upto_region 40 with (fail)
 generalize hW9:w8.alloc (.cells #[.slice A8 (restOf (nth d.ins i).vals).length c8,.int .i64 (nth d.ins i).lost] 113)=W9
 have hb89:Below w8.heap.size w8 W9:=by rw [← hW9];exact Below.alloc (Below.refl _ _) (Nat.le_refl _) _
 have x9:W9.heap[w8.heap.size]?=some (.cells #[.slice A8 (restOf (nth d.ins i).vals).length c8,.int .i64 (nth d.ins i).lost] 113):=by
  rw [← hW9];exact heap_alloc_new _ _
 clear hW9
 have hb19:Below W.heap.size W W9:=hb9.trans (hb89.mono s8)
 have s9:=hb19.size
 have sz9:=(blk x9).2.2
 obtain ⟨hWj2,hx17,hx18,hset,bd,-⟩:=hWjh.out
 obtain ⟨ca8,fa8,za8⟩:=blk ((hb19.block _ zai).trans (by rw [hx17,hai2.out]:W.heap[b17]?=some (.cells #[.int .i64 a.kind,.int .i64 i,.int .i64 a.value] 65)))
 obtain ⟨cd8,fd8,zd8⟩:=blk ((hb19.block _ zd2).trans bd)
 obtain ⟨c9,f9,z9⟩:=blk x9
 have kf8:∀o,W9.frozen? ⟨gt,o,none⟩=false:=fun o=>(hb19.frozen (p:=⟨gt,o,none⟩) hgt).trans (tf o)
 have kt0:=(hb19.cell (p:=⟨gt,i*2,none⟩) hgt).trans t0
 have kt1:=(hb19.cell (p:=⟨gt,i*2+1,none⟩) hgt).trans t1
 have hJ9:WmJ w c S b17 b18 a {d with ins:=d.ins.set i (takeR (nth d.ins i))} k j ((W9.setCell ⟨gt,i*2,none⟩ (.slice A8 (restOf (nth d.ins i).vals).length c8)).setCell ⟨gt,i*2+1,none⟩ (.int .i64 (nth d.ins i).lost)):=by
  rcases hor with ⟨hv0,rfl,rfl⟩|hown
  ·have eR:takeR (nth d.ins i)=nth d.ins i:=by unfold takeR;rw [hv0];show (⟨[],_⟩:TRing)=_;rw [← hv0]
   have eN:restOf (nth d.ins i).vals=(nth d.ins i).vals:=by rw [hv0];rfl
   rw [eR,set_nth_self hi,eN,cell_noop kt0,cell_noop kt1]
   have h2:=hWj2.ext hb19
   exact ⟨h17,_,_,_,_,_,h2,(hb19.block _ zai).trans hx17,(hb19.block _ (blk hx18).2.2).trans hx18⟩
  ·have h2:=hset W9 A8 c8 (takeR (nth d.ins i)) hb19 (.of (own_keep hown fun b hb=>hb89.block b (own_lt hown b hb).2)) (fun b hb=>?_) (fun b hb=>(hWj2.ee b hb).2.1)
   ·exact ⟨h17,_,_,_,_,_,h2.1,(h2.2 _ (.inl rfl)).trans hx17,(h2.2 _ (.inr rfl)).trans hx18⟩
   ·have:=own_lt hown b (rowZ_own hb)
    exact ⟨by omega,by omega,fun he=>by have:=(hWj2.ee b he).2.1;omega⟩
 replace hJ9:=zH hJ9
 clear hor hset hWj2 hx17 hx18 bd cd2 cai t0 t1 tf HM x9 hWjh
 go_upto_region 41 with (fail)
 refine wofR41 _ (by kernel_rfl) rfl hJ9.out (by dsimp only;omega) ?_
 intro _ _ _ _ _ _ W' hJ10
 go_wp2_with fail
 exact hQ.out _ _ _ _ _ _ _ _ _ _ _ _ _ _ _ _ _ _ _ _ _ _ _ _ _ hJ10
theorem wofR36 (C:Code)(hC:C=stOf (regionNo 36)){w:World}{c:TCfg}{S:TCfgS}{b17 b18 g10:Nat}{a:TAct}{d:TDom}{k:List (List TWay)}{j:TJob}{Wa:World}{m now:Int}{i:Nat}(h10:g10=w.heap.size+2)(hW:WmJ w c S b17 b18 a d k j Wa)(hai:a.n=(i:Int))(hi:i < d.outs.length)(ho:(nth d.outs i).length+1≤4398046511104)
  {Q:Exit→Act→World→Prop}
  (hQ:∀(Ry Rw Ru Rs Rq Ro Rk Ri Rg Re Rb R9 R7 R4 SY:Value) (W':World),(WmJ w c S b17 b18 a {d with outs:=d.outs.set i (nth d.outs i++[a.value])} k j W')→Q .normal ⟨[KZ,(.int .i64 m),KU,KS,KO,KM,KI,(.pointer (some ⟨w.heap.size,0,none⟩)),Kz,(.pointer (some ⟨w.heap.size+1,0,none⟩)),(.pointer (some ⟨g10,0,none⟩)),Kt,Kr,Ko,Km,Kk,Ki,(.pointer (some ⟨b17,0,none⟩)),(.pointer (some ⟨b18,0,none⟩)),Kc,Ka,K8,K6,K4,K1,LZ,LX,LV,LT,LR,LP,LN,LK,LI,LG,LE,LC,Lz,Lx,Lv,Lt,Lr,Lp,Ln,Ll,Lj,Lh,Lf,Ld,Lb,L6,MY,MW,MU,MS,MQ,MO,MM,MK,MI,MG,ME,MC,MA,My,Mw,Mu,Ms,Mq,Mo,Mm,Mk,Mi,Mg,Me,Mc,Ma,M8,M6,M4,M2,M0,NY,NW,NU,NS,NQ,NO,NL,NJ,NH,NF,ND,NB,Nz,Nx,Nv,Nt,Nr,Np,Nn,Nl,Nj,Nh,Nf,Nc,Na,N8,N6,N4,N2,OZ,OX,OV,OT,OR,OP,ON,OL,OJ,OH,OF,OD,OB,Oz,Ox,Ov,Ot,Oo,Om,Ok,Oi,Og,Oe,Oc,Oa,O8,O6,O4,O2,O0,PY,PW,PU,PS,PQ,PO,PM,PK,PI,PG,PE,PC,PA,Py,Pw,Pu,Ps,Pq,Po,Pm,Pj,Ph,Pf,Pd,Pb,P9,P7,P5,P3,P1,QZ,QX,QV,QT,QR,QP,QN,QL,QJ,QH,QF,QD,QB,Qz,Qx,Qv,Qt,Qr,Qp,Qn,Ql,Qj,Qh,Qf,Qd,Qb,Q9,RY,RV,RT,RR,RP,RM,RG,RE,Ry,Rw,Ru,Rs,Rq,Ro,Rk,Ri,Rg,Re,Rb,R9,R7,R4,SY,SX,SV,ST,SR,SP,SN,SL,SJ,SH,SF,SD,SB,Sz,Sw,Su,Ss,Sq,So,Sm,Sj,Sh,Sf,Sd,Sb,S9,S7,S5,TZ,TX,TV,TT,TR,TP,TN,TL,TJ,TH,TF,TD,TB,Tz,Tw,Tu,Ts,Tq,To,Tm,Th,Tf,Td,Tb,UZ,UX,UV,UT,UR,UP,UN,UL,UJ,UH,UF,UD,UB,Uz,Ux,Uv,Ut,Ur,Up,Un,Ul,Uj,Uh,Uf,Ud,Ub,U9,U7,U5,U3,U1,VZ,VX,VV,VT,VR,VP,VN,VL,VJ,VH,VF,VD,VB,Vz,Vx,Vv,Vt,Vr,Vp,Vn,Vl,Vj,Vh,Vf,Vd].toArray,[]⟩ W'):
  Code.wp Try.prog C Q ⟨[KZ,(.int .i64 m),KU,KS,KO,KM,KI,(.pointer (some ⟨w.heap.size,0,none⟩)),Kz,(.pointer (some ⟨w.heap.size+1,0,none⟩)),(.pointer (some ⟨g10,0,none⟩)),Kt,Kr,Ko,Km,Kk,Ki,(.pointer (some ⟨b17,0,none⟩)),(.pointer (some ⟨b18,0,none⟩)),Kc,Ka,K8,K6,K4,K1,LZ,LX,LV,LT,LR,LP,LN,LK,LI,LG,LE,LC,Lz,Lx,Lv,Lt,Lr,Lp,Ln,Ll,Lj,Lh,Lf,Ld,Lb,L6,MY,MW,MU,MS,MQ,MO,MM,MK,MI,MG,ME,MC,MA,My,Mw,Mu,Ms,Mq,Mo,Mm,Mk,Mi,Mg,Me,Mc,Ma,M8,M6,M4,M2,M0,NY,NW,NU,NS,NQ,NO,NL,NJ,NH,NF,ND,NB,Nz,Nx,Nv,Nt,Nr,Np,Nn,Nl,Nj,Nh,Nf,Nc,Na,N8,N6,N4,N2,OZ,OX,OV,OT,OR,OP,ON,OL,OJ,OH,OF,OD,OB,Oz,Ox,Ov,Ot,Oo,Om,Ok,Oi,Og,Oe,Oc,Oa,O8,O6,O4,O2,O0,PY,PW,PU,PS,PQ,PO,PM,PK,PI,PG,PE,PC,PA,Py,Pw,Pu,Ps,Pq,Po,Pm,Pj,Ph,Pf,Pd,Pb,P9,P7,P5,P3,P1,QZ,QX,QV,QT,QR,QP,QN,QL,QJ,QH,QF,QD,QB,Qz,Qx,Qv,Qt,Qr,Qp,Qn,Ql,Qj,Qh,Qf,Qd,Qb,Q9,RY,RV,RT,RR,RP,RM,RG,RE,Rz,Rx,Rv,Rt,Rr,Rp,Rl,Rj,Rh,Rf,Rc,Ra,R8,R5,SZ,SX,SV,ST,SR,SP,SN,SL,SJ,SH,SF,SD,SB,Sz,Sw,Su,Ss,Sq,So,Sm,Sj,Sh,Sf,Sd,Sb,S9,S7,S5,TZ,TX,TV,TT,TR,TP,TN,TL,TJ,TH,TF,TD,TB,Tz,Tw,Tu,Ts,Tq,To,Tm,Th,Tf,Td,Tb,UZ,UX,UV,UT,UR,UP,UN,UL,UJ,UH,UF,UD,UB,Uz,Ux,Uv,Ut,Ur,Up,Un,Ul,Uj,Uh,Uf,Ud,Ub,U9,U7,U5,U3,U1,VZ,VX,VV,VT,VR,VP,VN,VL,VJ,VH,VF,VD,VB,Vz,Vx,Vv,Vt,Vr,Vp,Vn,Vl,Vj,Vh,Vf,Vd].toArray,[]⟩ Wa:=by
 subst hC
 subst h10
 replace hQ:=zH hQ
 conv=>arg 2;whnf
 obtain ⟨h17,Gj,Tj,Aj,nj,Fj,hWj,hx17,hx18⟩:=hW
 have hWs:=hWj.size
 have e17:=(hWj.ee b17 (.inl rfl))
 have e18:=(hWj.ee b18 (.inr rfl))
 obtain ⟨cj,fj,zj⟩:=blk hx18
 obtain ⟨ca,fa,za⟩:=blk hx17
 obtain ⟨cd,fd,zd⟩:=blk hWj.dp.blk
 have hx17i:=hx17
 rw [hai] at hx17i
 obtain ⟨g,Ar,cr,Gi,et,hGt,hgt,hgne,c0,hfz,hown,hrow,hGi,hset⟩:=hWj.out hi
 have i0:(0:Int)≤(i:Int):=by omega
 have i1:(i:Int) < d.outs.length:=by omega
 have hkk:=hWj.dp.blk
 rw [et] at hkk
 obtain ⟨g9,e9⟩:∃g9,g9=w.heap.size+1:=⟨_,rfl⟩
 rw [← e9] at hkk hgne hQ⊢
 have hGb:∀b,Gi b→w.heap.size+5≤b:=fun b hb=>hWj.gg 4 b (hGi b hb).1
 have nG:∀b,(∀i,¬ Gj i b)→¬ Gi b:=fun b hn hb=>hn 4 (hGi b hb).1
 have g9n:¬ Gi g9:=fun hb=>by have:=hGb _ hb;omega
 have n17:¬ Gi b17:=nG b17 (hWj.ee b17 (.inl rfl)).2.2.1
 have z9:=(blk hkk).2.2
 have KB:=zH (fun V (hS:KeepN Wa Gi V)=>(⟨hS.2.2.os,hS.2.2.tape,hS.2.2.output,hS.2.1,fun b hb=>hS.1 b (by omega) fun he=>by have:=hGb _ he;omega⟩:Below w.heap.size Wa V))
 have KK:=zH (fun V (hS:KeepN Wa Gi V)=>(hS.1 g9 z9 g9n).trans hkk)
 have KX:=zH (fun V (hS:KeepN Wa Gi V)=>(hS.1 b17 za n17).trans hx17i)
 have KQ:=zH (fun V (hS:KeepN Wa Gi V)=>(World.cell?_of_block (hS.1 g hgt fun e=>(hGi g e).2.1 rfl)).trans c0)
 have KF:=zH (fun V (hS:KeepN Wa Gi V)=>(fun o=>(World.frozen?_of_block (hS.1 g hgt fun e=>(hGi g e).2.1 rfl)).trans (hfz o):∀o,V.frozen? ⟨g,o,none⟩=false))
 have hown1:=zH hown
 have hrow1:=zH hrow
 have hset1:=zH hset
 have hxn1:=zH (fun b (hb:Gi b)=>(hGi b hb).2.2)
 have hw1:=zH (⟨et,hai⟩:_∧_)
 have hx17h:=zH hx17
 have hx18h:=zH hx18
 have KR:=zH e9
 clear hown hrow hset c0 hfz hkk et hai hx17 hx18 hx17i cj fj zj ca fa za cd fd zd hGi nG g9n n17 e9 hWj hGt
 refine wp_region_invT 14 [206,207,208,209,210,211,212,213,214,215,216,217,218,219] (fun l f W=>(l.size=16∧KeepN Wa Gi W∧(Lst l 13∨Below Wa.heap.size Wa W))∧Fa l 0 (f 206= .pointer (some ⟨g9,5,none⟩))∧Fa l 1 (f 207= .slice (some ⟨g,0,none⟩) d.outs.length Tj.n4)∧Fa l 2 (f 208= .pointer (some ⟨b17,1,none⟩))∧Fa l 3 (f 209= .int .i64 i)∧Fa l 4 (f 210= .pointer (some ⟨g9,5,none⟩))∧Fa l 5 (f 211= .slice (some ⟨g,0,none⟩) d.outs.length Tj.n4)∧Fa l 6 (f 212= .pointer (some ⟨b17,1,none⟩))∧Fa l 7 (f 213= .int .i64 i)∧Fa l 8 (f 214= .pointer (some ⟨g,i,none⟩))∧Fa l 9 (f 215= .slice Ar (nth d.outs i).length cr)∧Fa l 10 (f 216= .pointer (some ⟨b17,2,none⟩))∧Fa l 11 (f 217= .int .i64 a.value)∧Fa l 12 (∃gn,f 218= .slice (some ⟨gn,0,none⟩) 1 1∧Wa.heap.size≤gn∧gn < W.heap.size∧W.heap[gn]?=some (.cells #[.int .i64 a.value] 3 (0,0)))∧Fa l 13 (∃A3 c3,f 219= .slice A3 ((nth d.outs i).length+1) c3∧ownsZ W 3 1 (.slice A3 ((nth d.outs i).length+1) c3) ((nth d.outs i).length+1) (((nth d.outs i).flatMap fun n=>[Value.int .i64 n])++[.int .i64 a.value])∧(∀b,rowZ (.slice A3 ((nth d.outs i).length+1) c3)=some b→Gi b∨(Wa.heap.size≤b∧b < W.heap.size)))) (by kernel_rfl) (by decide) (by kernel_rfl) (by kernel_rfl) (by intro s hs;simp at hs⊢;omega) ?_ ?_ ?_
 ·intro l hz hl
  exact ⟨⟨hz,⟨fun _ _ _=>rfl,Nat.le_refl _,(Below.refl _ _).drew⟩,.inr (Below.refl _ _).drew⟩,.no (hl 0),.no (hl 1),.no (hl 2),.no (hl 3),.no (hl 4),.no (hl 5),.no (hl 6),.no (hl 7),.no (hl 8),.no (hl 9),.no (hl 10),.no (hl 11),.no (hl 12),.no (hl 13)⟩
 ·simp only [List.take_succ_cons,List.take_zero]
  refine StepsL.c 1 [] (fun l f W hR hn hb K Q2 hK=>?_) ?_
  ·obtain ⟨hS,h0,h1,h2,h3,h4,h5,h6,h7,h8,h9,h10,h11,h12,h13⟩:=hR
   obtain ⟨hz,hS,hO⟩:=hS
   clear hb
   refine ⟨?_⟩
   simp only [pfs] at hK⊢
   go_simp
   exact hK.out _ _ byK
  refine StepsL.c 2 [0] (fun l f W hR hn hb K Q2 hK=>?_) ?_
  ·obtain ⟨hS,h0,h1,h2,h3,h4,h5,h6,h7,h8,h9,h10,h11,h12,h13⟩:=hR
   have q0:=h0.out (hb 0 (by simp))
   obtain ⟨hz,hS,hO⟩:=hS
   clear hb
   refine ⟨?_⟩
   simp only [pfs] at hK⊢
   (try simp only [q0] at hK)
   obtain ⟨cX,fX,zX⟩:=blk (KK.out W hS)
   go_simp
   exact hK.out _ _ byK
  refine StepsL.c 3 [] (fun l f W hR hn hb K Q2 hK=>?_) ?_
  ·obtain ⟨hS,h0,h1,h2,h3,h4,h5,h6,h7,h8,h9,h10,h11,h12,h13⟩:=hR
   obtain ⟨hz,hS,hO⟩:=hS
   clear hb
   refine ⟨?_⟩
   simp only [pfs] at hK⊢
   go_simp
   exact hK.out _ _ byK
  refine StepsL.c 4 [2] (fun l f W hR hn hb K Q2 hK=>?_) ?_
  ·obtain ⟨hS,h0,h1,h2,h3,h4,h5,h6,h7,h8,h9,h10,h11,h12,h13⟩:=hR
   have q2:=h2.out (hb 2 (by simp))
   obtain ⟨hz,hS,hO⟩:=hS
   clear hb
   refine ⟨?_⟩
   simp only [pfs] at hK⊢
   (try simp only [q2] at hK)
   obtain ⟨cX,fX,zX⟩:=blk (KX.out W hS)
   go_simp
   exact hK.out _ _ byK
  refine StepsL.c 5 [] (fun l f W hR hn hb K Q2 hK=>?_) ?_
  ·obtain ⟨hS,h0,h1,h2,h3,h4,h5,h6,h7,h8,h9,h10,h11,h12,h13⟩:=hR
   obtain ⟨hz,hS,hO⟩:=hS
   clear hb
   refine ⟨?_⟩
   simp only [pfs] at hK⊢
   go_simp
   exact hK.out _ _ byK
  refine StepsL.c 6 [4] (fun l f W hR hn hb K Q2 hK=>?_) ?_
  ·obtain ⟨hS,h0,h1,h2,h3,h4,h5,h6,h7,h8,h9,h10,h11,h12,h13⟩:=hR
   have q4:=h4.out (hb 4 (by simp))
   obtain ⟨hz,hS,hO⟩:=hS
   clear hb
   refine ⟨?_⟩
   simp only [pfs] at hK⊢
   (try simp only [q4] at hK)
   obtain ⟨cX,fX,zX⟩:=blk (KK.out W hS)
   go_simp
   exact hK.out _ _ byK
  refine StepsL.c 7 [] (fun l f W hR hn hb K Q2 hK=>?_) ?_
  ·obtain ⟨hS,h0,h1,h2,h3,h4,h5,h6,h7,h8,h9,h10,h11,h12,h13⟩:=hR
   obtain ⟨hz,hS,hO⟩:=hS
   clear hb
   refine ⟨?_⟩
   simp only [pfs] at hK⊢
   go_simp
   exact hK.out _ _ byK
  refine StepsL.c 8 [6] (fun l f W hR hn hb K Q2 hK=>?_) ?_
  ·obtain ⟨hS,h0,h1,h2,h3,h4,h5,h6,h7,h8,h9,h10,h11,h12,h13⟩:=hR
   have q6:=h6.out (hb 6 (by simp))
   obtain ⟨hz,hS,hO⟩:=hS
   clear hb
   refine ⟨?_⟩
   simp only [pfs] at hK⊢
   (try simp only [q6] at hK)
   obtain ⟨cX,fX,zX⟩:=blk (KX.out W hS)
   go_simp
   exact hK.out _ _ byK
  refine StepsL.c 9 [5,7] (fun l f W hR hn hb K Q2 hK=>?_) ?_
  ·obtain ⟨hS,h0,h1,h2,h3,h4,h5,h6,h7,h8,h9,h10,h11,h12,h13⟩:=hR
   have q5:=h5.out (hb 5 (by simp))
   have q7:=h7.out (hb 7 (by simp))
   obtain ⟨hz,hS,hO⟩:=hS
   clear hb
   refine ⟨?_⟩
   simp only [pfs] at hK⊢
   (try simp only [q5,q7] at hK)
   go_simp
   exact hK.out _ _ byK
  refine StepsL.c 10 [8] (fun l f W hR hn hb K Q2 hK=>?_) ?_
  ·obtain ⟨hS,h0,h1,h2,h3,h4,h5,h6,h7,h8,h9,h10,h11,h12,h13⟩:=hR
   have q8:=h8.out (hb 8 (by simp))
   obtain ⟨hz,hS,hO⟩:=hS
   clear hb
   refine ⟨?_⟩
   simp only [pfs] at hK⊢
   (try simp only [q8] at hK)
   have kc:=KQ.out W hS
   go_simp
   exact hK.out _ _ byK
  refine StepsL.c 11 [] (fun l f W hR hn hb K Q2 hK=>?_) ?_
  ·obtain ⟨hS,h0,h1,h2,h3,h4,h5,h6,h7,h8,h9,h10,h11,h12,h13⟩:=hR
   obtain ⟨hz,hS,hO⟩:=hS
   clear hb
   refine ⟨?_⟩
   simp only [pfs] at hK⊢
   go_simp
   exact hK.out _ _ byK
  refine StepsL.c 12 [10] (fun l f W hR hn hb K Q2 hK=>?_) ?_
  ·obtain ⟨hS,h0,h1,h2,h3,h4,h5,h6,h7,h8,h9,h10,h11,h12,h13⟩:=hR
   have q10:=h10.out (hb 10 (by simp))
   obtain ⟨hz,hS,hO⟩:=hS
   clear hb
   refine ⟨?_⟩
   simp only [pfs] at hK⊢
   (try simp only [q10] at hK)
   obtain ⟨cX,fX,zX⟩:=blk (KX.out W hS)
   go_simp
   exact hK.out _ _ byK
  refine StepsL.c 13 [11] (fun l f W hR hn hb K Q2 hK=>?_) ?_
  ·obtain ⟨hS,h0,h1,h2,h3,h4,h5,h6,h7,h8,h9,h10,h11,h12,h13⟩:=hR
   have q11:=h11.out (hb 11 (by simp))
   obtain ⟨hz,hS,hO⟩:=hS
   clear hb
   refine ⟨?_⟩
   simp only [pfs] at hK⊢
   (try simp only [q11] at hK)
   go_simp
   refine hK.out _ _ ⟨⟨by simpa using hz,⟨fun b hb hnn=>(heap_alloc_old _ _ (by have:=hS.2.1;omega)).trans (hS.1 b hb hnn),by have:=hS.2.1;simp;omega,hS.2.2.alloc (Nat.zero_le _) _⟩,hO.imp Lst.fwd (fun hh=>hh.alloc (by have:=hh.size;omega) _)⟩,h0.k,h1.k,h2.k,h3.k,h4.k,h5.k,h6.k,h7.k,h8.k,h9.k,h10.k,h11.k,⟨fun _=>⟨W.heap.size,rfl,hS.2.1,by simp,heap_alloc_new _ _⟩⟩,⟨fun hl=>let ⟨A3,c3,e,o,r⟩:=(h13.out hl.b);⟨A3,c3,e,ownZ_keep o (fun b hb=>heap_alloc_old _ _ (ownZ_lt o b hb)),fun b hb=>(r b hb).imp id (fun h=>⟨h.1,by simp;omega⟩)⟩⟩⟩
  refine StepsL.c 14 [9,12] (fun l f W hR hn hb K Q2 hK=>?_) ?_
  ·obtain ⟨hS,h0,h1,h2,h3,h4,h5,h6,h7,h8,h9,h10,h11,h12,h13⟩:=hR
   have q9:=h9.out (hb 9 (by simp))
   have q12:=h12.out (hb 12 (by simp))
   obtain ⟨hz,hS,hO⟩:=hS
   obtain ⟨gn,e24,g24,l24,b24⟩:=q12
   have hOld:=hO.resolve_left hn
   have hsz:=hS.2.1
   have hown2:=ownZ_keep hown1.out fun b hb=>hOld.block b (by have:=hxn1.out b (hrow1.out b hb);omega)
   have hsrc:Src W (some ⟨gn,0,none⟩) 1 1 [Value.int .i64 a.value]:=⟨rfl,fun _=>⟨gn,0,rfl,fun j u hu=>by rw [Nat.zero_add,(blk b24).1];simpa using hu⟩⟩
   clear hb
   refine ⟨?_⟩
   simp only [pfs] at hK⊢
   (try simp only [q9,e24] at hK)
   simp only [q9,e24]
   refine wp_appZ (.tmp 215) (.tmp 218) _ rfl tyInt (.slice Ar (nth d.outs i).length cr) (nth d.outs i).length ((nth d.outs i).flatMap fun n=>[Value.int .i64 n]) (by rfl) hown2 (some ⟨gn,0,none⟩) 1 1 [.int .i64 a.value] (by rfl) hsrc (one_one rfl) (by unfold maxLen;omega) (by omega) (fun A3 c3 w3 own3 gr3 at3=>?_)
   simp only [Act.put,List.setIfInBounds_toArray,List.set_cons_zero,List.set_cons_succ]
   refine hK.out _ _ ⟨⟨by simpa using hz,⟨fun b hb hnn=>(gr3.block b (by omega) (fun e2=>hnn (hrow1.out b e2.symm))).trans (hS.1 b hb hnn),by have:=gr3.size;omega,hS.2.2.grown gr3 (Nat.zero_le _) (fun _ _=>Nat.zero_le _)⟩,.inl (Lst.self (by rw [hz];omega))⟩,h0.k,h1.k,h2.k,h3.k,h4.k,h5.k,h6.k,h7.k,h8.k,h9.k,h10.k,h11.k,⟨fun hl=>let ⟨gn,a,b,cc,e⟩:=(h12.out hl.b);⟨gn,a,b,by have:=gr3.size;omega,(gr3.block gn cc (fun e2=>by have:=hxn1.out gn (hrow1.out gn e2.symm);omega)).trans e⟩⟩,⟨fun _=>⟨A3,c3,rfl,own3,fun b hb=>by rcases at3 b hb with e|e;exact .inl (hrow1.out b e);exact .inr ⟨by omega,ownZ_lt own3 b hb⟩⟩⟩⟩
  exact StepsL.nil
 ·intro l f W hR hall
  obtain ⟨hS,h0,h1,h2,h3,h4,h5,h6,h7,h8,h9,h10,h11,h12,h13⟩:=hR
  have q0:=h0.out (hall 0 (by decide))
  have q1:=h1.out (hall 1 (by decide))
  have q2:=h2.out (hall 2 (by decide))
  have q3:=h3.out (hall 3 (by decide))
  have q4:=h4.out (hall 4 (by decide))
  have q5:=h5.out (hall 5 (by decide))
  have q6:=h6.out (hall 6 (by decide))
  have q7:=h7.out (hall 7 (by decide))
  have q8:=h8.out (hall 8 (by decide))
  have q9:=h9.out (hall 9 (by decide))
  have q10:=h10.out (hall 10 (by decide))
  have q11:=h11.out (hall 11 (by decide))
  have q12:=h12.out (hall 12 (by decide))
  have q13:=h13.out (hall 13 (by decide))
  clear h0 h1 h2 h3 h4 h5 h6 h7 h8 h9 h10 h11 h12 h13
  simp only [List.drop_succ_cons,List.drop_zero]
  obtain ⟨hz,hS,_⟩:=hS
  obtain ⟨A3,c3,e13,hown3,hrow3⟩:=q13
  simp only [pfs]
  simp only [q1,q3,e13]
  clear q0 q1 q2 q3 q4 q5 q6 q7 q8 q9 q10 q11 q12 hall
  have hJ8:WmJ w c S b17 b18 a {d with outs:=d.outs.set i (nth d.outs i++[a.value])} k j (W.setCell ⟨g,i,none⟩ (.slice A3 ((nth d.outs i).length+1) c3)):=by
   have hs3:=hset1.out W A3 c3 (nth d.outs i++[a.value]) (KB.out W hS) hS.1 (by rw [List.length_append,List.flatMap_append];simpa using hown3) (by rw [List.length_append];exact hrow3)
   rw [List.length_append] at hs3
   exact ⟨h17,_,_,_,_,_,hs3.1,(hs3.2 _ (.inl rfl)).trans hx17h.out,(hs3.2 _ (.inr rfl)).trans hx18h.out⟩
  have kq:=KQ.out W hS
  have kf:=KF.out W hS
  replace hJ8:=zH hJ8
  clear hown3 hrow3 hset1 hown1 hw1 KR KK KX KQ KF KB hS
  go_wp2_with fail
  exact hQ.out _ _ _ _ _ _ _ _ _ _ _ _ _ _ _ _ hJ8.out
structure MidOk (c:TCfg) (now:Int) (d:TDom):Prop where
 ev:d.events.length+1≤4398046511104
 now:0≤now∧now≤100000
 next:0≤d.next∧d.next≤100000
 q:1≤c.quantum∧c.quantum≤100000
 ins:d.ins.length=c.chans.length
 outs:d.outs.length=c.chans.length
 taken:d.taken.length=c.owners.length
 vals:∀i,(nth d.ins i).vals.length≤100000
 sent:∀i,(nth d.outs i).length+1≤4398046511104
theorem wofB3 (C:Code)(hC:C=stOf (blockNo 3)){w:World}{c:TCfg}{S:TCfgS}{b17 b18 g10:Nat}{a:TAct}{d:TDom}{k:List (List TWay)}{j:TJob}{W:World}{m now:Int}{co:Int}(h10:g10=w.heap.size+2)(hW:WmJ w c S b17 b18 a d k j W)(ha:ActOk a)(hM:MidOk c now d)
  {Q:Exit→Act→World→Prop}
  (hQ:∀(K7 K5 Qw Qu Qs Qq Qo Qm Qk Qi Qg Qe Qc Qa RZ RW RU RS RQ RO RI RF RD Ry Rw Ru Rs Rq Ro Rk Ri Rg Re Rb R9 R7 R4 SY SW SU SS SQ SO SM SK SI SG SE SC SA Sy Sv St Sr Sp Sn Sk Si Sg Se Sc Sa S8 S6 S3 TY TW TU TS TQ TO TM TK TI TG TE TC TA Ty Tv Tt Tr Tp Tn Tl Tg Te Tc Ta UY UW UU US UQ UO UM UK UI UG UE UC UA Uy:Value) (W':World),(WmJ w c S b17 b18 a (midJ c m now a co d) k j W')→Q .normal ⟨[KZ,(.int .i64 m),KU,KS,KO,(.int .i64 now),KI,(.pointer (some ⟨w.heap.size,0,none⟩)),Kz,(.pointer (some ⟨w.heap.size+1,0,none⟩)),(.pointer (some ⟨g10,0,none⟩)),Kt,Kr,Ko,Km,Kk,Ki,(.pointer (some ⟨b17,0,none⟩)),(.pointer (some ⟨b18,0,none⟩)),(.int .i64 co),(.bool (!refusedA c m a)),K7,K5,K4,K1,LZ,LX,LV,LT,LR,LP,LN,LK,LI,LG,LE,LC,Lz,Lx,Lv,Lt,Lr,Lp,Ln,Ll,Lj,Lh,Lf,Ld,Lb,L6,MY,MW,MU,MS,MQ,MO,MM,MK,MI,MG,ME,MC,MA,My,Mw,Mu,Ms,Mq,Mo,Mm,Mk,Mi,Mg,Me,Mc,Ma,M8,M6,M4,M2,M0,NY,NW,NU,NS,NQ,NO,NL,NJ,NH,NF,ND,NB,Nz,Nx,Nv,Nt,Nr,Np,Nn,Nl,Nj,Nh,Nf,Nc,Na,N8,N6,N4,N2,OZ,OX,OV,OT,OR,OP,ON,OL,OJ,OH,OF,OD,OB,Oz,Ox,Ov,Ot,Oo,Om,Ok,Oi,Og,Oe,Oc,Oa,O8,O6,O4,O2,O0,PY,PW,PU,PS,PQ,PO,PM,PK,PI,PG,PE,PC,PA,Py,Pw,Pu,Ps,Pq,Po,Pm,Pj,Ph,Pf,Pd,Pb,P9,P7,P5,P3,P1,QZ,QX,QV,QT,QR,QP,QN,QL,QJ,QH,QF,QD,QB,Qz,Qw,Qu,Qs,Qq,Qo,Qm,Qk,Qi,Qg,Qe,Qc,Qa,RZ,RW,RU,RS,RQ,RO,RI,RF,RD,Ry,Rw,Ru,Rs,Rq,Ro,Rk,Ri,Rg,Re,Rb,R9,R7,R4,SY,SW,SU,SS,SQ,SO,SM,SK,SI,SG,SE,SC,SA,Sy,Sv,St,Sr,Sp,Sn,Sk,Si,Sg,Se,Sc,Sa,S8,S6,S3,TY,TW,TU,TS,TQ,TO,TM,TK,TI,TG,TE,TC,TA,Ty,Tv,Tt,Tr,Tp,Tn,Tl,Tg,Te,Tc,Ta,UY,UW,UU,US,UQ,UO,UM,UK,UI,UG,UE,UC,UA,Uy,Ux,Uv,Ut,Ur,Up,Un,Ul,Uj,Uh,Uf,Ud,Ub,U9,U7,U5,U3,U1,VZ,VX,VV,VT,VR,VP,VN,VL,VJ,VH,VF,VD,VB,Vz,Vx,Vv,Vt,Vr,Vp,Vn,Vl,Vj,Vh,Vf,Vd].toArray,[]⟩ W'):
  Code.wp Try.prog C Q ⟨[KZ,(.int .i64 m),KU,KS,KO,(.int .i64 now),KI,(.pointer (some ⟨w.heap.size,0,none⟩)),Kz,(.pointer (some ⟨w.heap.size+1,0,none⟩)),(.pointer (some ⟨g10,0,none⟩)),Kt,Kr,Ko,Km,Kk,Ki,(.pointer (some ⟨b17,0,none⟩)),(.pointer (some ⟨b18,0,none⟩)),(.int .i64 co),(.bool (!refusedA c m a)),K8,K6,K4,K1,LZ,LX,LV,LT,LR,LP,LN,LK,LI,LG,LE,LC,Lz,Lx,Lv,Lt,Lr,Lp,Ln,Ll,Lj,Lh,Lf,Ld,Lb,L6,MY,MW,MU,MS,MQ,MO,MM,MK,MI,MG,ME,MC,MA,My,Mw,Mu,Ms,Mq,Mo,Mm,Mk,Mi,Mg,Me,Mc,Ma,M8,M6,M4,M2,M0,NY,NW,NU,NS,NQ,NO,NL,NJ,NH,NF,ND,NB,Nz,Nx,Nv,Nt,Nr,Np,Nn,Nl,Nj,Nh,Nf,Nc,Na,N8,N6,N4,N2,OZ,OX,OV,OT,OR,OP,ON,OL,OJ,OH,OF,OD,OB,Oz,Ox,Ov,Ot,Oo,Om,Ok,Oi,Og,Oe,Oc,Oa,O8,O6,O4,O2,O0,PY,PW,PU,PS,PQ,PO,PM,PK,PI,PG,PE,PC,PA,Py,Pw,Pu,Ps,Pq,Po,Pm,Pj,Ph,Pf,Pd,Pb,P9,P7,P5,P3,P1,QZ,QX,QV,QT,QR,QP,QN,QL,QJ,QH,QF,QD,QB,Qz,Qx,Qv,Qt,Qr,Qp,Qn,Ql,Qj,Qh,Qf,Qd,Qb,Q9,RY,RV,RT,RR,RP,RM,RG,RE,Rz,Rx,Rv,Rt,Rr,Rp,Rl,Rj,Rh,Rf,Rc,Ra,R8,R5,SZ,SX,SV,ST,SR,SP,SN,SL,SJ,SH,SF,SD,SB,Sz,Sw,Su,Ss,Sq,So,Sm,Sj,Sh,Sf,Sd,Sb,S9,S7,S5,TZ,TX,TV,TT,TR,TP,TN,TL,TJ,TH,TF,TD,TB,Tz,Tw,Tu,Ts,Tq,To,Tm,Th,Tf,Td,Tb,UZ,UX,UV,UT,UR,UP,UN,UL,UJ,UH,UF,UD,UB,Uz,Ux,Uv,Ut,Ur,Up,Un,Ul,Uj,Uh,Uf,Ud,Ub,U9,U7,U5,U3,U1,VZ,VX,VV,VT,VR,VP,VN,VL,VJ,VH,VF,VD,VB,Vz,Vx,Vv,Vt,Vr,Vp,Vn,Vl,Vj,Vh,Vf,Vd].toArray,[]⟩ W:=by
 subst hC
 subst h10
 replace hQ:=zH hQ
 conv=>arg 2;whnf
 have hk0:=ha.kind
 have hJ0:=zH hW
 obtain ⟨h17,Gj,Tj,Aj,nj,Fj,hWj,hx17,hx18⟩:=hW
 have hWs:=hWj.size
 have e17:=(hWj.ee b17 (.inl rfl))
 have e18:=(hWj.ee b18 (.inr rfl))
 obtain ⟨cj,fj,zj⟩:=blk hx18
 obtain ⟨ca,fa,za⟩:=blk hx17
 obtain ⟨cd,fd,zd⟩:=blk hWj.dp.blk
 by_cases hr:refusedA c m a=true
 ·simp only [hr,Bool.not_true] at hQ⊢
  clear hk0
  have em:=zH (show midJ c m now a co d=tellOf d now 12 (d.next - 1) 0 by unfold midJ;rw [if_pos hr])
  clear hr
  clear hWj hx17 hx18 cd cj
  go_upto_region 32 with (fail)
  refine wofR32 _ (by kernel_rfl) rfl hJ0.out hM.ev hM.next ?_
  intro _ _ _ _ _ _ W' hJ
  replace hJ:=zH hJ
  go_wp2_with fail
  exact hQ.out _ _ _ _ _ _ _ _ _ _ _ _ _ _ _ _ _ _ _ _ _ _ _ _ _ _ _ _ _ _ _ _ _ _ _ _ _ _ _ _ _ _ _ _ _ _ _ _ _ _ _ _ _ _ _ _ _ _ _ _ _ _ _ _ _ _ _ _ _ _ _ _ _ _ _ _ _ _ _ _ _ _ _ _ _ _ _ _ _ _ _ _ _ _ _ _ _ _ _ _ _ _ _ _ (by rw [em.out];exact hJ.out)
 have hr:refusedA c m a=false:=by simpa using hr
 simp only [hr,Bool.not_false] at hQ⊢
 by_cases hk:a.kind≤3
 ·clear hk0
  have em:=zH (show midJ c m now a co d=tellOf d now 11 co 0 by unfold midJ happenA;rw [if_neg (by simp [hr]),if_pos hk])
  have q1:decide (a.kind≤3)=true:=by simpa using hk
  clear hr hk
  clear hWj hx17 hx18 cd cj
  go_upto_region 34 with (fail)
  refine wofR34 _ (by kernel_rfl) rfl hJ0.out hM.ev ?_
  intro _ _ _ _ W' hJ
  replace hJ:=zH hJ
  go_wp2_with fail
  exact hQ.out _ _ _ _ _ _ _ _ _ _ _ _ _ _ _ _ _ _ _ _ _ _ _ _ _ _ _ _ _ _ _ _ _ _ _ _ _ _ _ _ _ _ _ _ _ _ _ _ _ _ _ _ _ _ _ _ _ _ _ _ _ _ _ _ _ _ _ _ _ _ _ _ _ _ _ _ _ _ _ _ _ _ _ _ _ _ _ _ _ _ _ _ _ _ _ _ _ _ _ _ _ _ _ _ (by rw [em.out];exact hJ.out)
 have nm:=hk
 clear hk
 by_cases hk:a.kind=4
 ·clear hk0
  have hnm:=ha.name (by rw [hk];simp)
  obtain ⟨i,hi⟩:=Int.eq_ofNat_of_zero_le hnm
  have hin:a.n.toNat=i:=by rw [hi];rfl
  have hlt:i < c.chans.length:=by
   unfold refusedA at hr
   rw [hk] at hr
   simp at hr
   omega
  have em:=zH (show midJ c m now a co d=tellOf {d with outs:=d.outs.set i (nth d.outs i++[a.value])} now 9 a.n 0 by unfold midJ happenA;rw [if_neg (by simp [hr]),if_neg (by omega),if_pos hk,hin])
  have hx17k:=hx17
  rw [hk] at hx17k
  obtain ⟨cak,fak,zak⟩:=blk hx17k
  clear ca hx17k
  clear hr hk hin hnm
  clear hWj hx17 hx18 cd cj
  go_upto_region 36 with (fail)
  refine wofR36 (now:=now) _ (by kernel_rfl) rfl hJ0.out hi (by rw [hM.outs];exact hlt) (hM.sent i) ?_
  intro _ _ _ _ _ _ _ _ _ _ _ _ _ _ _ W1 hJ1
  replace hJ1:=zH hJ1
  go_upto_region 37 with (fail)
  refine wofR37 _ (by kernel_rfl) rfl hJ1.out hM.ev ?_
  intro _ _ _ _ _ W' hJ
  replace hJ:=zH hJ
  go_wp2_with fail
  exact hQ.out _ _ _ _ _ _ _ _ _ _ _ _ _ _ _ _ _ _ _ _ _ _ _ _ _ _ _ _ _ _ _ _ _ _ _ _ _ _ _ _ _ _ _ _ _ _ _ _ _ _ _ _ _ _ _ _ _ _ _ _ _ _ _ _ _ _ _ _ _ _ _ _ _ _ _ _ _ _ _ _ _ _ _ _ _ _ _ _ _ _ _ _ _ _ _ _ _ _ _ _ _ _ _ _ (by rw [em.out];exact hJ.out)
 have ns:=hk
 clear hk
 by_cases hk:a.kind=5
 ·clear hk0
  have hnm:=ha.name (by rw [hk];simp)
  obtain ⟨i,hi⟩:=Int.eq_ofNat_of_zero_le hnm
  have hin:a.n.toNat=i:=by rw [hi];rfl
  have hlt:i < c.chans.length:=by
   unfold refusedA at hr
   rw [hk] at hr
   simp at hr
   omega
  have em:=zH (show midJ c m now a co d=tellOf {d with ins:=d.ins.set i (takeR (nth d.ins i))} now 8 a.n (takeV (nth d.ins i).vals) by unfold midJ happenA;rw [if_neg (by simp [hr]),if_neg (by omega),if_neg (by omega),if_pos hk,hin])
  have hx17k:=hx17
  rw [hk] at hx17k
  obtain ⟨cak,fak,zak⟩:=blk hx17k
  clear ca hx17k
  clear hr hk hin hnm
  clear hWj hx17 hx18 cd cj
  go_upto_if 226 with (fail)
  refine wofT5 _ (by kernel_rfl) rfl hJ0.out hi (by rw [hM.ins];exact hlt) (hM.vals i) hM.ev ?_
  intro _ _ _ _ _ _ _ _ _ _ _ _ _ _ _ _ _ _ _ _ _ _ _ _ W' hJ
  replace hJ:=zH hJ
  go_wp2_with fail
  exact hQ.out _ _ _ _ _ _ _ _ _ _ _ _ _ _ _ _ _ _ _ _ _ _ _ _ _ _ _ _ _ _ _ _ _ _ _ _ _ _ _ _ _ _ _ _ _ _ _ _ _ _ _ _ _ _ _ _ _ _ _ _ _ _ _ _ _ _ _ _ _ _ _ _ _ _ _ _ _ _ _ _ _ _ _ _ _ _ _ _ _ _ _ _ _ _ _ _ _ _ _ _ _ _ _ _ (by rw [em.out];exact hJ.out)
 have nt:=hk
 clear hk
 by_cases hk:a.kind=6
 ·clear hk0
  have em:=zH (show midJ c m now a co d=tellOf d now 7 (now - now % c.quantum) 0 by unfold midJ happenA;rw [if_neg (by simp [hr]),if_neg (by omega),if_neg (by omega),if_neg (by omega),if_pos hk])
  have hx17k:=hx17
  rw [hk] at hx17k
  obtain ⟨cak,fak,zak⟩:=blk hx17k
  clear ca hx17k
  clear hr hk
  clear hWj hx17 hx18 cd cj
  go_upto_region 43 with (fail)
  refine wofR43 _ (by kernel_rfl) rfl hJ0.out hM.ev rfl hM.now hM.q ?_
  intro _ _ _ _ _ _ _ _ _ _ W' hJ
  replace hJ:=zH hJ
  go_wp2_with fail
  exact hQ.out _ _ _ _ _ _ _ _ _ _ _ _ _ _ _ _ _ _ _ _ _ _ _ _ _ _ _ _ _ _ _ _ _ _ _ _ _ _ _ _ _ _ _ _ _ _ _ _ _ _ _ _ _ _ _ _ _ _ _ _ _ _ _ _ _ _ _ _ _ _ _ _ _ _ _ _ _ _ _ _ _ _ _ _ _ _ _ _ _ _ _ _ _ _ _ _ _ _ _ _ _ _ _ _ (by rw [em.out];exact hJ.out)
 have nn:=hk
 clear hk
 by_cases hk:a.kind=7
 ·clear hk0
  have hnm:=ha.name (by rw [hk];simp)
  obtain ⟨i,hi⟩:=Int.eq_ofNat_of_zero_le hnm
  have hin:a.n.toNat=i:=by rw [hi];rfl
  have hlt:i < c.owners.length:=by
   unfold refusedA at hr
   rw [hk] at hr
   simp at hr
   omega
  have em:=zH (show midJ c m now a co d= {tellOf d now 10 (i:Nat) (nth d.taken i) with taken:=d.taken.set i 0} by unfold midJ happenA;rw [if_neg (by simp [hr]),if_neg (by omega),if_neg (by omega),if_neg (by omega),if_neg (by omega),if_pos hk,hin,hi])
  have hx17k:=hx17
  rw [hk] at hx17k
  obtain ⟨cak,fak,zak⟩:=blk hx17k
  clear ca hx17k
  clear hr hk hin hnm
  clear hWj hx17 hx18 cd cj
  go_upto_region 45 with (fail)
  refine wofR45 _ (by kernel_rfl) rfl hJ0.out hM.ev hi (by rw [hM.taken];exact hlt) ?_
  intro _ _ _ _ _ _ _ _ _ _ _ W1 hJ1
  replace hJ1:=zH hJ1
  go_upto_region 46 with (fail)
  refine wofR46 (now:=now) _ (by kernel_rfl) rfl hJ1.out hi (by show i < d.taken.length;rw [hM.taken];exact hlt) ?_
  intro _ _ _ _ _ W' hJ
  replace hJ:=zH hJ
  go_wp2_with fail
  exact hQ.out _ _ _ _ _ _ _ _ _ _ _ _ _ _ _ _ _ _ _ _ _ _ _ _ _ _ _ _ _ _ _ _ _ _ _ _ _ _ _ _ _ _ _ _ _ _ _ _ _ _ _ _ _ _ _ _ _ _ _ _ _ _ _ _ _ _ _ _ _ _ _ _ _ _ _ _ _ _ _ _ _ _ _ _ _ _ _ _ _ _ _ _ _ _ _ _ _ _ _ _ _ _ _ _ (by rw [em.out];exact hJ.out)
 have nl:=hk
 clear hk
 have hk:a.kind=8:=by omega
 clear hk0 nm ns nt nn nl
 have em:=zH (show midJ c m now a co d=d by unfold midJ happenA;rw [if_neg (by simp [hr]),if_neg (by omega),if_neg (by omega),if_neg (by omega),if_neg (by omega),if_neg (by omega)])
 have hx17k:=hx17
 rw [hk] at hx17k
 obtain ⟨cak,fak,zak⟩:=blk hx17k
 clear ca hx17k
 clear hr hk
 clear hWj hx17 hx18 cd cj
 go_wp2_with fail
 exact hQ.out _ _ _ _ _ _ _ _ _ _ _ _ _ _ _ _ _ _ _ _ _ _ _ _ _ _ _ _ _ _ _ _ _ _ _ _ _ _ _ _ _ _ _ _ _ _ _ _ _ _ _ _ _ _ _ _ _ _ _ _ _ _ _ _ _ _ _ _ _ _ _ _ _ _ _ _ _ _ _ _ _ _ _ _ _ _ _ _ _ _ _ _ _ _ _ _ _ _ _ _ _ _ _ _ (by rw [em.out];exact hJ0.out)
theorem wofR48 (C:Code)(hC:C=stOf (regionNo 48)){w:World}{c:TCfg}{S:TCfgS}{b17 b18 g10:Nat}{a:TAct}{d:TDom}{k:List (List TWay)}{j:TJob}{W:World}{m now:Int}{ti:Nat}(h10:g10=w.heap.size+2)(hW:WmJ w c S b17 b18 a d k j W)(hjt:j.task=(ti:Int))(hti:ti < c.tasks.length)
  {Q:Exit→Act→World→Prop}
  (hQ:∀(Uw Uu Us Uq Uo Um Uk Ui Ug:Value) (W':World),(WmJ w c S b17 b18 a d k j W')→Q .normal ⟨[KZ,(.int .i64 m),KU,KS,KO,KM,KI,(.pointer (some ⟨w.heap.size,0,none⟩)),Kz,(.pointer (some ⟨w.heap.size+1,0,none⟩)),(.pointer (some ⟨g10,0,none⟩)),Kt,Kr,Ko,Km,Kk,Ki,(.pointer (some ⟨b17,0,none⟩)),(.pointer (some ⟨b18,0,none⟩)),Kc,Ka,K8,K6,K4,K1,LZ,LX,LV,LT,LR,LP,LN,LK,LI,LG,LE,LC,Lz,Lx,Lv,Lt,Lr,Lp,Ln,Ll,Lj,Lh,Lf,Ld,Lb,L6,MY,MW,MU,MS,MQ,MO,MM,MK,MI,MG,ME,MC,MA,My,Mw,Mu,Ms,Mq,Mo,Mm,Mk,Mi,Mg,Me,Mc,Ma,M8,M6,M4,M2,M0,NY,NW,NU,NS,NQ,NO,NL,NJ,NH,NF,ND,NB,Nz,Nx,Nv,Nt,Nr,Np,Nn,Nl,Nj,Nh,Nf,Nc,Na,N8,N6,N4,N2,OZ,OX,OV,OT,OR,OP,ON,OL,OJ,OH,OF,OD,OB,Oz,Ox,Ov,Ot,Oo,Om,Ok,Oi,Og,Oe,Oc,Oa,O8,O6,O4,O2,O0,PY,PW,PU,PS,PQ,PO,PM,PK,PI,PG,PE,PC,PA,Py,Pw,Pu,Ps,Pq,Po,Pm,Pj,Ph,Pf,Pd,Pb,P9,P7,P5,P3,P1,QZ,QX,QV,QT,QR,QP,QN,QL,QJ,QH,QF,QD,QB,Qz,Qx,Qv,Qt,Qr,Qp,Qn,Ql,Qj,Qh,Qf,Qd,Qb,Q9,RY,RV,RT,RR,RP,RM,RG,RE,Rz,Rx,Rv,Rt,Rr,Rp,Rl,Rj,Rh,Rf,Rc,Ra,R8,R5,SZ,SX,SV,ST,SR,SP,SN,SL,SJ,SH,SF,SD,SB,Sz,Sw,Su,Ss,Sq,So,Sm,Sj,Sh,Sf,Sd,Sb,S9,S7,S5,TZ,TX,TV,TT,TR,TP,TN,TL,TJ,TH,TF,TD,TB,Tz,Tw,Tu,Ts,Tq,To,Tm,Th,Tf,Td,Tb,UZ,UX,UV,UT,UR,UP,UN,UL,UJ,UH,UF,UD,UB,Uz,Uw,Uu,Us,Uq,Uo,Um,Uk,Ui,Ug,.bool (decide ((taskOf c j.task).budget≤j.used)),Ud,Ub,U9,U7,U5,U3,U1,VZ,VX,VV,VT,VR,VP,VN,VL,VJ,VH,VF,VD,VB,Vz,Vx,Vv,Vt,Vr,Vp,Vn,Vl,Vj,Vh,Vf,Vd].toArray,[]⟩ W'):
  Code.wp Try.prog C Q ⟨[KZ,(.int .i64 m),KU,KS,KO,KM,KI,(.pointer (some ⟨w.heap.size,0,none⟩)),Kz,(.pointer (some ⟨w.heap.size+1,0,none⟩)),(.pointer (some ⟨g10,0,none⟩)),Kt,Kr,Ko,Km,Kk,Ki,(.pointer (some ⟨b17,0,none⟩)),(.pointer (some ⟨b18,0,none⟩)),Kc,Ka,K8,K6,K4,K1,LZ,LX,LV,LT,LR,LP,LN,LK,LI,LG,LE,LC,Lz,Lx,Lv,Lt,Lr,Lp,Ln,Ll,Lj,Lh,Lf,Ld,Lb,L6,MY,MW,MU,MS,MQ,MO,MM,MK,MI,MG,ME,MC,MA,My,Mw,Mu,Ms,Mq,Mo,Mm,Mk,Mi,Mg,Me,Mc,Ma,M8,M6,M4,M2,M0,NY,NW,NU,NS,NQ,NO,NL,NJ,NH,NF,ND,NB,Nz,Nx,Nv,Nt,Nr,Np,Nn,Nl,Nj,Nh,Nf,Nc,Na,N8,N6,N4,N2,OZ,OX,OV,OT,OR,OP,ON,OL,OJ,OH,OF,OD,OB,Oz,Ox,Ov,Ot,Oo,Om,Ok,Oi,Og,Oe,Oc,Oa,O8,O6,O4,O2,O0,PY,PW,PU,PS,PQ,PO,PM,PK,PI,PG,PE,PC,PA,Py,Pw,Pu,Ps,Pq,Po,Pm,Pj,Ph,Pf,Pd,Pb,P9,P7,P5,P3,P1,QZ,QX,QV,QT,QR,QP,QN,QL,QJ,QH,QF,QD,QB,Qz,Qx,Qv,Qt,Qr,Qp,Qn,Ql,Qj,Qh,Qf,Qd,Qb,Q9,RY,RV,RT,RR,RP,RM,RG,RE,Rz,Rx,Rv,Rt,Rr,Rp,Rl,Rj,Rh,Rf,Rc,Ra,R8,R5,SZ,SX,SV,ST,SR,SP,SN,SL,SJ,SH,SF,SD,SB,Sz,Sw,Su,Ss,Sq,So,Sm,Sj,Sh,Sf,Sd,Sb,S9,S7,S5,TZ,TX,TV,TT,TR,TP,TN,TL,TJ,TH,TF,TD,TB,Tz,Tw,Tu,Ts,Tq,To,Tm,Th,Tf,Td,Tb,UZ,UX,UV,UT,UR,UP,UN,UL,UJ,UH,UF,UD,UB,Uz,Ux,Uv,Ut,Ur,Up,Un,Ul,Uj,Uh,Uf,Ud,Ub,U9,U7,U5,U3,U1,VZ,VX,VV,VT,VR,VP,VN,VL,VJ,VH,VF,VD,VB,Vz,Vx,Vv,Vt,Vr,Vp,Vn,Vl,Vj,Vh,Vf,Vd].toArray,[]⟩ W:=by
 subst hC
 subst h10
 replace hQ:=zH hQ
 conv=>arg 2;whnf
 obtain ⟨h17,Gj,Tj,Aj,nj,Fj,hWj,hx17,hx18⟩:=hW
 have hWs:=hWj.size
 have e17:=(hWj.ee b17 (.inl rfl))
 have e18:=(hWj.ee b18 (.inr rfl))
 obtain ⟨cj,fj,zj⟩:=blk hx18
 obtain ⟨ca,fa,za⟩:=blk hx17
 obtain ⟨cd,fd,zd⟩:=blk hWj.dp.blk
 have hx18j:=hx18
 rw [hjt] at hx18j
 obtain ⟨cjt,fjt,zjt⟩:=blk hx18j
 have hcf:=hWj.dp.cfg
 have hb0:=hWj.b0
 have ex:(taskOf c j.task)=nth c.tasks ti:=by unfold taskOf;rw [hjt];rfl
 rw [ex] at hQ
 obtain ⟨b,o,e,hI,x0,x1,x2,x3⟩:=hcf.s3.at_task hti
 rw [e] at hb0
 obtain ⟨c0,f0,z0⟩:=blk hb0
 have i0:(0:Int)≤(ti:Int):=by omega
 have i1:(ti:Int) < c.tasks.length:=by omega
 have hbl:b < W.heap.size:=by have hb':b < w.heap.size:=hI;omega
 have hJ0:=zH (fun V (hb:Below W.heap.size W V)=>(⟨h17,_,_,_,_,_,hWj.ext hb,(hb.block _ za).trans hx17,(hb.block _ zj).trans hx18⟩:WmJ w c S b17 b18 a d k j V))
 clear hWj hx17 hx18 hx18j cj hjt ex e hb0 hcf cd ca
 generalize hbd:(nth c.tasks ti).budget=bud at*
 have q1:decide (j.used≥bud)=decide (bud≤j.used):=rfl
 clear hbd q1
 go_quiet (fail)
 go_wp2_with fail
 exact hQ.out _ _ _ _ _ _ _ _ _ _ (hJ0.out _ byB)
theorem wofR50 (C:Code)(hC:C=stOf (regionNo 50)){w:World}{c:TCfg}{S:TCfgS}{b17 b18 g10:Nat}{a:TAct}{d:TDom}{k:List (List TWay)}{j:TJob}{W:World}{m now:Int}(h10:g10=w.heap.size+2)(hW:WmJ w c S b17 b18 a d k j W)
  {Q:Exit→Act→World→Prop}
  (hQ:∀(Uc Ua:Value) (W':World),(W'=W)→Q .normal ⟨[KZ,(.int .i64 m),KU,KS,KO,KM,KI,(.pointer (some ⟨w.heap.size,0,none⟩)),Kz,(.pointer (some ⟨w.heap.size+1,0,none⟩)),(.pointer (some ⟨g10,0,none⟩)),Kt,Kr,Ko,Km,Kk,Ki,(.pointer (some ⟨b17,0,none⟩)),(.pointer (some ⟨b18,0,none⟩)),Kc,Ka,K8,K6,K4,K1,LZ,LX,LV,LT,LR,LP,LN,LK,LI,LG,LE,LC,Lz,Lx,Lv,Lt,Lr,Lp,Ln,Ll,Lj,Lh,Lf,Ld,Lb,L6,MY,MW,MU,MS,MQ,MO,MM,MK,MI,MG,ME,MC,MA,My,Mw,Mu,Ms,Mq,Mo,Mm,Mk,Mi,Mg,Me,Mc,Ma,M8,M6,M4,M2,M0,NY,NW,NU,NS,NQ,NO,NL,NJ,NH,NF,ND,NB,Nz,Nx,Nv,Nt,Nr,Np,Nn,Nl,Nj,Nh,Nf,Nc,Na,N8,N6,N4,N2,OZ,OX,OV,OT,OR,OP,ON,OL,OJ,OH,OF,OD,OB,Oz,Ox,Ov,Ot,Oo,Om,Ok,Oi,Og,Oe,Oc,Oa,O8,O6,O4,O2,O0,PY,PW,PU,PS,PQ,PO,PM,PK,PI,PG,PE,PC,PA,Py,Pw,Pu,Ps,Pq,Po,Pm,Pj,Ph,Pf,Pd,Pb,P9,P7,P5,P3,P1,QZ,QX,QV,QT,QR,QP,QN,QL,QJ,QH,QF,QD,QB,Qz,Qx,Qv,Qt,Qr,Qp,Qn,Ql,Qj,Qh,Qf,Qd,Qb,Q9,RY,RV,RT,RR,RP,RM,RG,RE,Rz,Rx,Rv,Rt,Rr,Rp,Rl,Rj,Rh,Rf,Rc,Ra,R8,R5,SZ,SX,SV,ST,SR,SP,SN,SL,SJ,SH,SF,SD,SB,Sz,Sw,Su,Ss,Sq,So,Sm,Sj,Sh,Sf,Sd,Sb,S9,S7,S5,TZ,TX,TV,TT,TR,TP,TN,TL,TJ,TH,TF,TD,TB,Tz,Tw,Tu,Ts,Tq,To,Tm,Th,Tf,Td,Tb,UZ,UX,UV,UT,UR,UP,UN,UL,UJ,UH,UF,UD,UB,Uz,Ux,Uv,Ut,Ur,Up,Un,Ul,Uj,Uh,Uf,Uc,Ua,.bool (decide (a.kind=8)),U7,U5,U3,U1,VZ,VX,VV,VT,VR,VP,VN,VL,VJ,VH,VF,VD,VB,Vz,Vx,Vv,Vt,Vr,Vp,Vn,Vl,Vj,Vh,Vf,Vd].toArray,[]⟩ W'):
  Code.wp Try.prog C Q ⟨[KZ,(.int .i64 m),KU,KS,KO,KM,KI,(.pointer (some ⟨w.heap.size,0,none⟩)),Kz,(.pointer (some ⟨w.heap.size+1,0,none⟩)),(.pointer (some ⟨g10,0,none⟩)),Kt,Kr,Ko,Km,Kk,Ki,(.pointer (some ⟨b17,0,none⟩)),(.pointer (some ⟨b18,0,none⟩)),Kc,Ka,K8,K6,K4,K1,LZ,LX,LV,LT,LR,LP,LN,LK,LI,LG,LE,LC,Lz,Lx,Lv,Lt,Lr,Lp,Ln,Ll,Lj,Lh,Lf,Ld,Lb,L6,MY,MW,MU,MS,MQ,MO,MM,MK,MI,MG,ME,MC,MA,My,Mw,Mu,Ms,Mq,Mo,Mm,Mk,Mi,Mg,Me,Mc,Ma,M8,M6,M4,M2,M0,NY,NW,NU,NS,NQ,NO,NL,NJ,NH,NF,ND,NB,Nz,Nx,Nv,Nt,Nr,Np,Nn,Nl,Nj,Nh,Nf,Nc,Na,N8,N6,N4,N2,OZ,OX,OV,OT,OR,OP,ON,OL,OJ,OH,OF,OD,OB,Oz,Ox,Ov,Ot,Oo,Om,Ok,Oi,Og,Oe,Oc,Oa,O8,O6,O4,O2,O0,PY,PW,PU,PS,PQ,PO,PM,PK,PI,PG,PE,PC,PA,Py,Pw,Pu,Ps,Pq,Po,Pm,Pj,Ph,Pf,Pd,Pb,P9,P7,P5,P3,P1,QZ,QX,QV,QT,QR,QP,QN,QL,QJ,QH,QF,QD,QB,Qz,Qx,Qv,Qt,Qr,Qp,Qn,Ql,Qj,Qh,Qf,Qd,Qb,Q9,RY,RV,RT,RR,RP,RM,RG,RE,Rz,Rx,Rv,Rt,Rr,Rp,Rl,Rj,Rh,Rf,Rc,Ra,R8,R5,SZ,SX,SV,ST,SR,SP,SN,SL,SJ,SH,SF,SD,SB,Sz,Sw,Su,Ss,Sq,So,Sm,Sj,Sh,Sf,Sd,Sb,S9,S7,S5,TZ,TX,TV,TT,TR,TP,TN,TL,TJ,TH,TF,TD,TB,Tz,Tw,Tu,Ts,Tq,To,Tm,Th,Tf,Td,Tb,UZ,UX,UV,UT,UR,UP,UN,UL,UJ,UH,UF,UD,UB,Uz,Ux,Uv,Ut,Ur,Up,Un,Ul,Uj,Uh,Uf,Ud,Ub,U9,U7,U5,U3,U1,VZ,VX,VV,VT,VR,VP,VN,VL,VJ,VH,VF,VD,VB,Vz,Vx,Vv,Vt,Vr,Vp,Vn,Vl,Vj,Vh,Vf,Vd].toArray,[]⟩ W:=by
 subst hC
 subst h10
 replace hQ:=zH hQ
 conv=>arg 2;whnf
 obtain ⟨h17,Gj,Tj,Aj,nj,Fj,hWj,hx17,hx18⟩:=hW
 have hWs:=hWj.size
 have e17:=(hWj.ee b17 (.inl rfl))
 have e18:=(hWj.ee b18 (.inr rfl))
 obtain ⟨cj,fj,zj⟩:=blk hx18
 obtain ⟨ca,fa,za⟩:=blk hx17
 obtain ⟨cd,fd,zd⟩:=blk hWj.dp.blk
 by_cases hk:a.kind=8
 ·have q1:(a.kind==8)=true:=by simpa using hk
  have e1:decide (a.kind=8)=true:=by simpa using hk
  rw [e1] at hQ
  clear hk e1 hWj hx17 hx18 cd cj
  go_wp2_with fail
  exact hQ.out _ _ _ rfl
 ·have q1:(a.kind==8)=false:=by simpa using hk
  have e1:decide (a.kind=8)=false:=by simpa using hk
  rw [e1] at hQ
  clear hk e1 hWj hx17 hx18 cd cj
  go_wp2_with fail
  exact hQ.out _ _ _ rfl
theorem WmG.jobsNew {w:World}{c:TCfg}{S:TCfgS}{E:Nat→Prop}{d:TDom}{k:List (List TWay)}{W W':World}{G:Nat→Nat→Prop}{T:TDomS}{A:Option Addr}{n:Nat}{F:Nat→Prop}(h:WmG w c S E d k W G T A n F)(hb:Below W.heap.size W W'){A':Option Addr}{c':Nat}(js:List TJob)
  (hown:ownsZ W' 110 6 (.slice A' js.length c') js.length (js.flatMap TJob.cells)) (hrow:∀b,rowZ (.slice A' js.length c')=some b→W.heap.size≤b):
  WmG w c S E {d with jobs:=js} k (W'.setCell ⟨w.heap.size+1,0,none⟩ (.slice A' js.length c')) (addG G 0 W.heap.size W'.heap.size) {T with a0:=A',n0:=c'} A n F∧∀b,E b→(W'.setCell ⟨w.heap.size+1,0,none⟩ (.slice A' js.length c')).heap[b]?=W.heap[b]?:=by
 have hs:=h.size
 have hz:=(blk h.dp.blk).2.2
 have hD:=h.dp.dom
 have hk:∀i b,G i b→W'.heap[b]?=W.heap[b]?:=fun i b hi=>hb.block b (hD.lt i b hi)
 have kp:∀b,b≠w.heap.size+1→(W'.setCell ⟨w.heap.size+1,0,none⟩ (.slice A' js.length c')).heap[b]?=W'.heap[b]?:=fun b hb=>Below.heap_setCell _ _ _ _ hb
 have hap:∀j b,addG G 0 W.heap.size W'.heap.size j b→b≠w.heap.size+1∧w.heap.size≤b:=fun j b hj=>by
  rcases hj with hj|hj
  ·exact h.dp.apart j b hj
  ·have:=hj.2.1;omega
 have hN:DomO (addG G 0 W.heap.size W'.heap.size) W' {d with jobs:=js} {T with a0:=A',n0:=c'} :=
  ⟨ozl_flat.2 ⟨hown,fun b hb1=> .inr ⟨rfl,hrow b hb1,ownZ_lt hown b hb1⟩⟩,(hD.o1.keep (hk 1)).mono fun b hb=> .inl hb,(hD.o2.keep (hk 2)).mono fun b hb=> .inl hb,(hD.o3.keep (hk 3)).mono fun b hb=> .inl hb,(hD.o4.keep (hk 4)).mono fun b hb=> .inl hb,(hD.o5.keep (hk 5)).mono fun b hb=> .inl hb,addG_dis hD.dis hD.lt,fun j b hj=>by
   rcases hj with hj|hj
   ·have:=hD.lt j b hj;have:=hb.size;omega
   ·exact hj.2.2⟩
 refine h.turn (d':= {d with jobs:=js}) (T':= {T with a0:=A',n0:=c'}) ⟨?_,h.dp.cfg.keep fun b hb1=>(kp b (by have hb':b < w.heap.size:=hb1;omega)).trans (hb.block b (by have hb':b < w.heap.size:=hb1;omega)),hN.setCell fun j hj=>(hap j _ hj).1 rfl,hap,h.dp.lo⟩ ⟨Below.setCell (hb.mono (by omega)) (by simp) _,fun b hb1 hb2 _=>(kp b hb2).trans (hb.block b hb1),fun j b hj=>?_⟩
 ·have:=heap_set_same (i:=0) (u:= .slice A' js.length c') ((hb.block _ hz).trans h.dp.blk)
  simpa using this
 ·rcases hj with hj|hj
  ·exact .inl hj
  ·exact .inr ⟨hj.2.1,by simpa using hj.2.2⟩
theorem used_parts {co now:Int}{i:Nat}{d:TDom}(hi:i < d.jobs.length):
  usedJ co i (startJ now i d)= {startT now (nth d.jobs i) d with next:=(startT now (nth d.jobs i) d).next+1,jobs:=(startT now (nth d.jobs i) d).jobs.set i {nth d.jobs i with ran:=true,used:=(nth d.jobs i).used+co} } :=by
 unfold usedJ startJ startT
 cases hr:(nth d.jobs i).ran with
 |true=>
  simp only [if_true]
  congr 2
  rw [← hr]
 |false=>
  simp only [Bool.false_eq_true,if_false,tellOf,nth_set_self hi,List.set_set]
theorem used_job {co now:Int}{i:Nat}{d:TDom}(hi:i < d.jobs.length):nth (usedJ co i (startJ now i d)).jobs i= {nth d.jobs i with ran:=true,used:=(nth d.jobs i).used+co} :=by
 rw [used_parts hi]
 exact nth_set_self (by unfold startT tellOf;split<;>exact hi)
end
section
set_option maxRecDepth 100000
set_option maxHeartbeats 400000
theorem jobs_flat_len (js:List TJob):(js.flatMap TJob.cells).length=js.length*6:=by
 induction js with
 |nil=>rfl
 |cons a js ih=>simp only [List.flatMap_cons,List.length_append,ih,List.length_cons];show 6+_=_;omega
theorem src_take {w:World}{g:Nat}{js:List TJob}(hj:∀j u,(js.flatMap TJob.cells)[j]?=some u→w.cell? ⟨g,j,none⟩=some u)(i:Nat)(hi:i≤js.length):
  Src w (some ⟨g,0,none⟩) i 6 ((js.take i).flatMap TJob.cells):=by
 refine ⟨by rw [jobs_flat_len,List.length_take,Nat.min_eq_left hi],fun _=>⟨g,0,rfl,fun j u hu=>?_⟩⟩
 rw [Nat.zero_add]
 refine hj j u ?_
 have e:js.flatMap TJob.cells=(js.take i).flatMap TJob.cells++(js.drop i).flatMap TJob.cells:=by rw [← List.flatMap_append,List.take_append_drop]
 rw [e,List.getElem?_append_left (by obtain ⟨h,_⟩:=List.getElem?_eq_some_iff.mp hu;exact h)]
 exact hu
theorem src_drop {w:World}{g:Nat}{js:List TJob}(hj:∀j u,(js.flatMap TJob.cells)[j]?=some u→w.cell? ⟨g,j,none⟩=some u)(i:Nat)(hi:i < js.length){A:Option Addr}
  (hA:i+1 < js.length→A=some ⟨g,(i+1)*6,none⟩):Src w A (js.length - (i+1)) 6 ((js.drop (i+1)).flatMap TJob.cells):=by
 refine ⟨by rw [jobs_flat_len,List.length_drop],fun hp=>⟨g,(i+1)*6,hA (by omega),fun j u hu=>?_⟩⟩
 refine hj _ u ?_
 have e:js.flatMap TJob.cells=(js.take (i+1)).flatMap TJob.cells++(js.drop (i+1)).flatMap TJob.cells:=by rw [← List.flatMap_append,List.take_append_drop]
 have el:((js.take (i+1)).flatMap TJob.cells).length=(i+1)*6:=by rw [jobs_flat_len,List.length_take,Nat.min_eq_left (by omega)]
 rw [e,List.getElem?_append_right (by omega),el,Nat.add_sub_cancel_left]
 exact hu
end
section
set_option maxRecDepth 1000000
set_option maxHeartbeats 8000000
variable {KZ KW KU KS KO KM KI KG Kz Kx Kv Kt Kr Ko Km Kk Ki Kg Ke Kc Ka K8 K6 K4 K1 LZ LX LV LT LR LP LN LK LI LG LE LC Lz Lx Lv Lt Lr Lp Ln Ll Lj Lh Lf Ld Lb L6 MY MW MU MS MQ MO MM MK MI MG ME MC MA My Mw Mu Ms Mq Mo Mm Mk Mi Mg Me Mc Ma M8 M6 M4 M2 M0 NY NW NU NS NQ NO NL NJ NH NF ND NB Nz Nx Nv Nt Nr Np Nn Nl Nj Nh Nf Nc Na N8 N6 N4 N2 OZ OX OV OT OR OP ON OL OJ OH OF OD OB Oz Ox Ov Ot Oo Om Ok Oi Og Oe Oc Oa O8 O6 O4 O2 O0 PY PW PU PS PQ PO PM PK PI PG PE PC PA Py Pw Pu Ps Pq Po Pm Pj Ph Pf Pd Pb P9 P7 P5 P3 P1 QZ QX QV QT QR QP QN QL QJ QH QF QD QB Qz Qx Qv Qt Qr Qp Qn Ql Qj Qh Qf Qd Qb Q9 RY RV RT RR RP RM RG RE Rz Rx Rv Rt Rr Rp Rl Rj Rh Rf Rc Ra R8 R5 SZ SX SV ST SR SP SN SL SJ SH SF SD SB Sz Sw Su Ss Sq So Sm Sj Sh Sf Sd Sb S9 S7 S5 TZ TX TV TT TR TP TN TL TJ TH TF TD TB Tz Tw Tu Ts Tq To Tm Th Tf Td Tb UZ UX UV UT UR UP UN UL UJ UH UF UD UB Uz Ux Uv Ut Ur Up Un Ul Uj Uh Uf Ud Ub U9 U7 U5 U3 U1 VZ VX VV VT VR VP VN VL VJ VH VF VD VB Vz Vx Vv Vt Vr Vp Vn Vl Vj Vh Vf Vd : Value}
theorem one_jobs (js:List TJob):∀u∈js.flatMap TJob.cells,u.oneCell'=true:=by
 intro u hu
 obtain ⟨j,_,h⟩:=List.mem_flatMap.1 hu
 simp only [TJob.cells,List.mem_cons,List.not_mem_nil,or_false] at h
 rcases h with rfl|rfl|rfl|rfl|rfl|rfl<;>rfl
theorem wofR54 (C:Code)(hC:C=stOf (regionNo 54)){w:World}{c:TCfg}{S:TCfgS}{b17 b18 g10:Nat}{a:TAct}{d:TDom}{k:List (List TWay)}{j:TJob}{Wa:World}{m now:Int}{bi:Nat}(h10:g10=w.heap.size+2)(hW:WmJ w c S b17 b18 a d k j Wa)(hi:bi < d.jobs.length)(hjl:d.jobs.length≤100000)
  {Q:Exit→Act→World→Prop}
  (hQ:∀(VM VK VI VG VE VC VA Vy Vw Vu Vs Vq Vo:Value) (W':World),(WmJ w c S b17 b18 a {d with jobs:=d.jobs.eraseIdx bi} k j W')→Q .normal ⟨(KZ::(.int .i64 m)::KU::KS::KO::KM::KI::(.pointer (some ⟨w.heap.size,0,none⟩))::Kz::(.pointer (some ⟨w.heap.size+1,0,none⟩))::(.pointer (some ⟨g10,0,none⟩))::Kt::Kr::Ko::Km::Kk::(.int .i64 (bi:Nat))::(.pointer (some ⟨b17,0,none⟩))::(.pointer (some ⟨b18,0,none⟩))::Kc::Ka::K8::K6::K4::K1::LZ::LX::LV::LT::LR::LP::LN::LK::LI::LG::LE::LC::Lz::Lx::Lv::Lt::Lr::Lp::Ln::Ll::Lj::Lh::Lf::Ld::Lb::L6::MY::MW::MU::MS::MQ::MO::MM::MK::MI::MG::ME::MC::MA::My::Mw::Mu::Ms::Mq::Mo::Mm::Mk::Mi::Mg::Me::Mc::Ma::M8::M6::M4::M2::M0::NY::NW::NU::NS::NQ::NO::NL::NJ::NH::NF::ND::NB::Nz::Nx::Nv::Nt::Nr::Np::Nn::Nl::Nj::Nh::Nf::Nc::Na::N8::N6::N4::N2::OZ::OX::OV::OT::OR::OP::ON::OL::OJ::OH::OF::OD::OB::Oz::Ox::Ov::Ot::Oo::Om::Ok::Oi::Og::Oe::Oc::Oa::O8::O6::O4::O2::O0::PY::PW::PU::PS::PQ::PO::PM::PK::PI::PG::PE::PC::PA::Py::Pw::Pu::Ps::Pq::Po::Pm::Pj::Ph::Pf::Pd::Pb::P9::P7::P5::P3::P1::QZ::QX::QV::QT::QR::QP::QN::QL::QJ::QH::QF::QD::QB::Qz::Qx::Qv::Qt::Qr::Qp::Qn::Ql::Qj::Qh::Qf::Qd::Qb::Q9::RY::RV::RT::RR::RP::RM::RG::RE::Rz::Rx::Rv::Rt::Rr::Rp::Rl::Rj::Rh::Rf::Rc::Ra::R8::R5::SZ::SX::SV::ST::SR::SP::SN::SL::SJ::SH::SF::SD::SB::Sz::Sw::Su::Ss::Sq::So::Sm::Sj::Sh::Sf::Sd::Sb::S9::S7::S5::TZ::TX::TV::TT::TR::TP::TN::TL::TJ::TH::TF::TD::TB::Tz::Tw::Tu::Ts::Tq::To::Tm::Th::Tf::Td::Tb::UZ::UX::UV::UT::UR::UP::UN::UL::UJ::UH::UF::UD::UB::Uz::Ux::Uv::Ut::Ur::Up::Un::Ul::Uj::Uh::Uf::Ud::Ub::U9::U7::U5::U3::U1::VZ::VX::VV::VT::VR::VP::VM::VK::VI::VG::VE::VC::VA::Vy::Vw::Vu::Vs::Vq::Vo::Vn::Vl::Vj::Vh::Vf::Vd::[]).toArray,[]⟩ W'):
  Code.wp Try.prog C Q ⟨(KZ::(.int .i64 m)::KU::KS::KO::KM::KI::(.pointer (some ⟨w.heap.size,0,none⟩))::Kz::(.pointer (some ⟨w.heap.size+1,0,none⟩))::(.pointer (some ⟨g10,0,none⟩))::Kt::Kr::Ko::Km::Kk::(.int .i64 (bi:Nat))::(.pointer (some ⟨b17,0,none⟩))::(.pointer (some ⟨b18,0,none⟩))::Kc::Ka::K8::K6::K4::K1::LZ::LX::LV::LT::LR::LP::LN::LK::LI::LG::LE::LC::Lz::Lx::Lv::Lt::Lr::Lp::Ln::Ll::Lj::Lh::Lf::Ld::Lb::L6::MY::MW::MU::MS::MQ::MO::MM::MK::MI::MG::ME::MC::MA::My::Mw::Mu::Ms::Mq::Mo::Mm::Mk::Mi::Mg::Me::Mc::Ma::M8::M6::M4::M2::M0::NY::NW::NU::NS::NQ::NO::NL::NJ::NH::NF::ND::NB::Nz::Nx::Nv::Nt::Nr::Np::Nn::Nl::Nj::Nh::Nf::Nc::Na::N8::N6::N4::N2::OZ::OX::OV::OT::OR::OP::ON::OL::OJ::OH::OF::OD::OB::Oz::Ox::Ov::Ot::Oo::Om::Ok::Oi::Og::Oe::Oc::Oa::O8::O6::O4::O2::O0::PY::PW::PU::PS::PQ::PO::PM::PK::PI::PG::PE::PC::PA::Py::Pw::Pu::Ps::Pq::Po::Pm::Pj::Ph::Pf::Pd::Pb::P9::P7::P5::P3::P1::QZ::QX::QV::QT::QR::QP::QN::QL::QJ::QH::QF::QD::QB::Qz::Qx::Qv::Qt::Qr::Qp::Qn::Ql::Qj::Qh::Qf::Qd::Qb::Q9::RY::RV::RT::RR::RP::RM::RG::RE::Rz::Rx::Rv::Rt::Rr::Rp::Rl::Rj::Rh::Rf::Rc::Ra::R8::R5::SZ::SX::SV::ST::SR::SP::SN::SL::SJ::SH::SF::SD::SB::Sz::Sw::Su::Ss::Sq::So::Sm::Sj::Sh::Sf::Sd::Sb::S9::S7::S5::TZ::TX::TV::TT::TR::TP::TN::TL::TJ::TH::TF::TD::TB::Tz::Tw::Tu::Ts::Tq::To::Tm::Th::Tf::Td::Tb::UZ::UX::UV::UT::UR::UP::UN::UL::UJ::UH::UF::UD::UB::Uz::Ux::Uv::Ut::Ur::Up::Un::Ul::Uj::Uh::Uf::Ud::Ub::U9::U7::U5::U3::U1::VZ::VX::VV::VT::VR::VP::VN::VL::VJ::VH::VF::VD::VB::Vz::Vx::Vv::Vt::Vr::Vp::Vn::Vl::Vj::Vh::Vf::Vd::[]).toArray,[]⟩ Wa:=by
 subst hC
 subst h10
 replace hQ:=zH hQ
 conv=>arg 2;whnf
 obtain ⟨h17,Gj,Tj,Aj,nj,Fj,hWj,hx17,hx18⟩:=hW
 have hWs:=hWj.size
 have e17:=(hWj.ee b17 (.inl rfl))
 have e18:=(hWj.ee b18 (.inr rfl))
 obtain ⟨cj,fj,zj⟩:=blk hx18
 obtain ⟨ca,fa,za⟩:=blk hx17
 obtain ⟨cd,fd,zd⟩:=blk hWj.dp.blk
 obtain ⟨g,et,hGt,hgt,hgne,-,hfz,-⟩:=hWj.job hi
 have i0:(0:Int)≤(bi:Int):=by omega
 have i1:(bi:Int) < d.jobs.length:=by omega
 have hcap:d.jobs.length≤Tj.n0:=(hWj.dp.dom.read (F:=fun _=>True) fun _ _ _=>trivial).s0.cap
 have i2:(bi:Int)≤(Tj.n0:Int):=by omega
 have i3:bi≤Tj.n0:=by omega
 have i4:(bi:Int)+1≤d.jobs.length:=by omega
 have i5:IntKind.i64.wrap ((bi:Int)+1)=(bi:Int)+1:=IntWalk.i64_in _ (by omega)
 have hkk:=hWj.dp.blk
 rw [et] at hkk
 obtain ⟨g9,e9⟩:∃g9,g9=w.heap.size+1:=⟨_,rfl⟩
 rw [← e9] at hkk hgne hQ⊢
 have z9:=(blk hkk).2.2
 have KK:=zH (fun V (hS:Below Wa.heap.size Wa V)=>(hS.block g9 z9).trans hkk)
 have KJ:=zH (fun V (hS:Below Wa.heap.size Wa V)=>(show ∀(j:Nat) u,(d.jobs.flatMap TJob.cells)[j]?=some u→V.cell? ⟨g,j,none⟩=some u by
  obtain ⟨_,hs⟩:=(hWj.dp.dom.read (F:=fun b=>b < Wa.heap.size) fun i b hi=>hWj.dp.dom.lt i b hi).s0.src
  obtain ⟨b,o,e,hc⟩:=hs (by omega)
  rw [et] at e
  injection e with e;injection e with e1 e2
  subst e1;subst e2
  intro j u hu
  have:=hc j u hu
  rw [Nat.zero_add] at this
  exact (hS.cell (p:=⟨g,j,none⟩) hgt).trans this))
 have KR:=zH e9
 have hw1:=zH (⟨et,hx17,hx18,hWj⟩:_∧_∧_∧_)
 clear hkk et hx17 hx18 cj fj zj ca fa za cd fd zd e9 hWj hGt
 refine wp_region_invT 12 [309,310,311,312,313,314,315,316,317,318,319,320] (fun l f W=>(l.size=14∧Below Wa.heap.size Wa W)∧Fa l 0 (∃g0,f 309= .slice (some ⟨g0,0,none⟩) 0 0)∧Fa l 1 (f 310= .pointer (some ⟨g9,0,none⟩))∧Fa l 2 (f 311= .slice (some ⟨g,0,none⟩) d.jobs.length Tj.n0)∧Fa l 3 (f 312= .int .i64 ((bi:Nat)))∧Fa l 4 (f 313= .slice (some ⟨g,0,none⟩) bi Tj.n0)∧Fa l 5 (Lst l 11∨∃A3 c3,f 314= .slice A3 bi c3∧ownsZ W 110 6 (.slice A3 bi c3) bi ((d.jobs.take bi).flatMap TJob.cells)∧(∀b,rowZ (.slice A3 bi c3)=some b→Wa.heap.size≤b))∧Fa l 6 (f 315= .pointer (some ⟨g9,0,none⟩))∧Fa l 7 (f 316= .slice (some ⟨g,0,none⟩) d.jobs.length Tj.n0)∧Fa l 8 (f 317= .int .i64 ((bi:Nat)))∧Fa l 9 (f 318= .int .i64 ((bi:Int)+1))∧Fa l 10 (f 319= .slice (if Tj.n0=bi+1 then some ⟨g,0,none⟩ else some ⟨g,(bi+1)*6,none⟩) (d.jobs.length - (bi+1)) (Tj.n0 - (bi+1)))∧Fa l 11 (∃A4 c4,f 320= .slice A4 (bi+(d.jobs.length - (bi+1))) c4∧ownsZ W 110 6 (.slice A4 (bi+(d.jobs.length - (bi+1))) c4) (bi+(d.jobs.length - (bi+1))) (((d.jobs.take bi).flatMap TJob.cells)++((d.jobs.drop (bi+1)).flatMap TJob.cells))∧(∀b,rowZ (.slice A4 (bi+(d.jobs.length - (bi+1))) c4)=some b→Wa.heap.size≤b))) (by kernel_rfl) (by decide) (by kernel_rfl) (by kernel_rfl) (by intro s hs;simp at hs⊢;omega) ?_ ?_ ?_
 ·intro l hz hl
  exact ⟨⟨hz,(Below.refl _ _).drew⟩,.no (hl 0),.no (hl 1),.no (hl 2),.no (hl 3),.no (hl 4),.no (hl 5),.no (hl 6),.no (hl 7),.no (hl 8),.no (hl 9),.no (hl 10),.no (hl 11)⟩
 ·simp only [List.take_succ_cons,List.take_zero]
  refine StepsL.c 1 [] (fun l f W hR hn hb K Q2 hK=>?_) ?_
  ·obtain ⟨hS,h0,h1,h2,h3,h4,h5,h6,h7,h8,h9,h10,h11⟩:=hR
   obtain ⟨hz,hS⟩:=hS
   clear hb
   refine ⟨?_⟩
   simp only [pfs] at hK⊢
   go_simp
   refine hK.out _ _ ⟨⟨by simpa using hz,hS.alloc (Nat.le_trans (Nat.le_refl _) hS.size) _⟩,⟨fun _=>⟨W.heap.size,rfl⟩⟩,h1.k,h2.k,h3.k,h4.k,⟨fun hl=>(h5.out hl.b).imp Lst.fwd (fun ⟨A3,c3,e,o,r⟩=>⟨A3,c3,e,ownZ_keep o (fun b hb=>heap_alloc_old _ _ (ownZ_lt o b hb)),r⟩)⟩,h6.k,h7.k,h8.k,h9.k,h10.k,⟨fun hl=>let ⟨A4,c4,e,o,r⟩:=(h11.out hl.b);⟨A4,c4,e,ownZ_keep o (fun b hb=>heap_alloc_old _ _ (ownZ_lt o b hb)),r⟩⟩⟩
  refine StepsL.c 2 [] (fun l f W hR hn hb K Q2 hK=>?_) ?_
  ·obtain ⟨hS,h0,h1,h2,h3,h4,h5,h6,h7,h8,h9,h10,h11⟩:=hR
   obtain ⟨hz,hS⟩:=hS
   clear hb
   refine ⟨?_⟩
   simp only [pfs] at hK⊢
   go_simp
   refine hK.out _ _ ⟨⟨by simpa using hz,hS⟩,h0.k,⟨fun _=>rfl⟩,h2.k,h3.k,h4.k,⟨fun hl=>(h5.out hl.b).imp Lst.fwd id⟩,h6.k,h7.k,h8.k,h9.k,h10.k,h11.k⟩
  refine StepsL.c 3 [1] (fun l f W hR hn hb K Q2 hK=>?_) ?_
  ·obtain ⟨hS,h0,h1,h2,h3,h4,h5,h6,h7,h8,h9,h10,h11⟩:=hR
   have q1:=h1.out (hb 1 (by simp))
   obtain ⟨hz,hS⟩:=hS
   clear hb
   refine ⟨?_⟩
   simp only [pfs] at hK⊢
   (try simp only [q1] at hK)
   obtain ⟨cX,fX,zX⟩:=blk (KK.out W hS)
   go_simp
   refine hK.out _ _ ⟨⟨by simpa using hz,hS⟩,h0.k,h1.k,⟨fun _=>rfl⟩,h3.k,h4.k,⟨fun hl=>(h5.out hl.b).imp Lst.fwd id⟩,h6.k,h7.k,h8.k,h9.k,h10.k,h11.k⟩
  refine StepsL.c 4 [] (fun l f W hR hn hb K Q2 hK=>?_) ?_
  ·obtain ⟨hS,h0,h1,h2,h3,h4,h5,h6,h7,h8,h9,h10,h11⟩:=hR
   obtain ⟨hz,hS⟩:=hS
   clear hb
   refine ⟨?_⟩
   simp only [pfs] at hK⊢
   go_simp
   refine hK.out _ _ ⟨⟨by simpa using hz,hS⟩,h0.k,h1.k,h2.k,⟨fun _=>rfl⟩,h4.k,⟨fun hl=>(h5.out hl.b).imp Lst.fwd id⟩,h6.k,h7.k,h8.k,h9.k,h10.k,h11.k⟩
  refine StepsL.c 5 [2,3] (fun l f W hR hn hb K Q2 hK=>?_) ?_
  ·obtain ⟨hS,h0,h1,h2,h3,h4,h5,h6,h7,h8,h9,h10,h11⟩:=hR
   have q2:=h2.out (hb 2 (by simp))
   have q3:=h3.out (hb 3 (by simp))
   obtain ⟨hz,hS⟩:=hS
   clear hb
   refine ⟨?_⟩
   simp only [pfs] at hK⊢
   (try simp only [q2,q3] at hK)
   go_simp
   refine hK.out _ _ ⟨⟨by simpa using hz,hS⟩,h0.k,h1.k,h2.k,h3.k,⟨fun _=>rfl⟩,⟨fun hl=>(h5.out hl.b).imp Lst.fwd id⟩,h6.k,h7.k,h8.k,h9.k,h10.k,h11.k⟩
  refine StepsL.c 6 [0,4] (fun l f W hR hn hb K Q2 hK=>?_) ?_
  ·obtain ⟨hS,h0,h1,h2,h3,h4,h5,h6,h7,h8,h9,h10,h11⟩:=hR
   have q0:=h0.out (hb 0 (by simp))
   have q4:=h4.out (hb 4 (by simp))
   obtain ⟨hz,hS⟩:=hS
   obtain ⟨g0,e0⟩:=q0
   clear hb
   refine ⟨?_⟩
   simp only [pfs] at hK⊢
   (try simp only [q4,e0] at hK)
   simp only [e0,q4]
   refine wp_appZ (.tmp 309) (.tmp 313) _ rfl tyJob (.slice (some ⟨g0,0,none⟩) 0 0) 0 [] (by rfl) (.inr ⟨rfl,rfl,_,rfl⟩) (some ⟨g,0,none⟩) bi Tj.n0 ((d.jobs.take bi).flatMap TJob.cells) (by rfl) (src_take (KJ.out W hS) bi (by omega)) (one_jobs _) (by unfold maxLen;omega) (by omega) (fun A3 c3 w3 own3 gr3 at3=>?_)
   rw [Nat.zero_add] at own3 at3⊢
   simp only [Act.put,List.setIfInBounds_toArray,List.set_cons_zero,List.set_cons_succ]
   refine hK.out _ _ ⟨⟨by simpa using hz,hS.grown gr3 hS.size (fun b hb=>absurd hb (by simp [rowZ]))⟩,h0.k,h1.k,h2.k,h3.k,h4.k,⟨fun _=> .inr ⟨A3,c3,rfl,own3,fun b hb=>by rcases at3 b hb with e|e;exact absurd e (by simp [rowZ]);rw [e];exact hS.size⟩⟩,h6.k,h7.k,h8.k,h9.k,h10.k,⟨fun hl=>let ⟨A4,c4,e,o,r⟩:=(h11.out hl.b);⟨A4,c4,e,ownZ_keep o (fun b hb=>gr3.block b (ownZ_lt o b hb) (by simp [rowZ])),r⟩⟩⟩
  refine StepsL.c 7 [] (fun l f W hR hn hb K Q2 hK=>?_) ?_
  ·obtain ⟨hS,h0,h1,h2,h3,h4,h5,h6,h7,h8,h9,h10,h11⟩:=hR
   obtain ⟨hz,hS⟩:=hS
   clear hb
   refine ⟨?_⟩
   simp only [pfs] at hK⊢
   go_simp
   refine hK.out _ _ ⟨⟨by simpa using hz,hS⟩,h0.k,h1.k,h2.k,h3.k,h4.k,⟨fun hl=>(h5.out hl.b).imp Lst.fwd id⟩,⟨fun _=>rfl⟩,h7.k,h8.k,h9.k,h10.k,h11.k⟩
  refine StepsL.c 8 [6] (fun l f W hR hn hb K Q2 hK=>?_) ?_
  ·obtain ⟨hS,h0,h1,h2,h3,h4,h5,h6,h7,h8,h9,h10,h11⟩:=hR
   have q6:=h6.out (hb 6 (by simp))
   obtain ⟨hz,hS⟩:=hS
   clear hb
   refine ⟨?_⟩
   simp only [pfs] at hK⊢
   (try simp only [q6] at hK)
   obtain ⟨cX,fX,zX⟩:=blk (KK.out W hS)
   go_simp
   refine hK.out _ _ ⟨⟨by simpa using hz,hS⟩,h0.k,h1.k,h2.k,h3.k,h4.k,⟨fun hl=>(h5.out hl.b).imp Lst.fwd id⟩,h6.k,⟨fun _=>rfl⟩,h8.k,h9.k,h10.k,h11.k⟩
  refine StepsL.c 9 [] (fun l f W hR hn hb K Q2 hK=>?_) ?_
  ·obtain ⟨hS,h0,h1,h2,h3,h4,h5,h6,h7,h8,h9,h10,h11⟩:=hR
   obtain ⟨hz,hS⟩:=hS
   clear hb
   refine ⟨?_⟩
   simp only [pfs] at hK⊢
   go_simp
   refine hK.out _ _ ⟨⟨by simpa using hz,hS⟩,h0.k,h1.k,h2.k,h3.k,h4.k,⟨fun hl=>(h5.out hl.b).imp Lst.fwd id⟩,h6.k,h7.k,⟨fun _=>rfl⟩,h9.k,h10.k,h11.k⟩
  refine StepsL.c 10 [8] (fun l f W hR hn hb K Q2 hK=>?_) ?_
  ·obtain ⟨hS,h0,h1,h2,h3,h4,h5,h6,h7,h8,h9,h10,h11⟩:=hR
   have q8:=h8.out (hb 8 (by simp))
   obtain ⟨hz,hS⟩:=hS
   clear hb
   refine ⟨?_⟩
   simp only [pfs] at hK⊢
   (try simp only [q8] at hK)
   go_simp
   refine hK.out _ _ ⟨⟨by simpa using hz,hS⟩,h0.k,h1.k,h2.k,h3.k,h4.k,⟨fun hl=>(h5.out hl.b).imp Lst.fwd id⟩,h6.k,h7.k,h8.k,⟨fun _=>rfl⟩,h10.k,h11.k⟩
  refine StepsL.c 11 [7,9] (fun l f W hR hn hb K Q2 hK=>?_) ?_
  ·obtain ⟨hS,h0,h1,h2,h3,h4,h5,h6,h7,h8,h9,h10,h11⟩:=hR
   have q7:=h7.out (hb 7 (by simp))
   have q9:=h9.out (hb 9 (by simp))
   obtain ⟨hz,hS⟩:=hS
   clear hb
   refine ⟨?_⟩
   simp only [pfs] at hK⊢
   (try simp only [q7,q9] at hK)
   go_simp
   refine hK.out _ _ ⟨⟨by simpa using hz,hS⟩,h0.k,h1.k,h2.k,h3.k,h4.k,⟨fun hl=>(h5.out hl.b).imp Lst.fwd id⟩,h6.k,h7.k,h8.k,h9.k,⟨fun _=>rfl⟩,h11.k⟩
  refine StepsL.c 12 [5,10,5] (fun l f W hR hn hb K Q2 hK=>?_) ?_
  ·obtain ⟨hS,h0,h1,h2,h3,h4,h5,h6,h7,h8,h9,h10,h11⟩:=hR
   have q5:=h5.out (hb 5 (by simp))
   have q10:=h10.out (hb 10 (by simp))
   obtain ⟨hz,hS⟩:=hS
   obtain ⟨A3,c3,e5,o5,r5⟩:=q5.resolve_left hn
   clear hb
   refine ⟨?_⟩
   simp only [pfs] at hK⊢
   (try simp only [q10,e5] at hK)
   simp only [e5,q10]
   refine wp_appZ (.tmp 314) (.tmp 319) _ rfl tyJob (.slice A3 bi c3) bi ((d.jobs.take bi).flatMap TJob.cells) (by rfl) o5 _ (d.jobs.length - (bi+1)) (Tj.n0 - (bi+1)) ((d.jobs.drop (bi+1)).flatMap TJob.cells) (by rfl) (src_drop (KJ.out W hS) bi (by omega) (fun h=>if_neg (by omega))) (one_jobs _) (by unfold maxLen;omega) (by omega) (fun A4 c4 w4 own4 gr4 at4=>?_)
   simp only [Act.put,List.setIfInBounds_toArray,List.set_cons_zero,List.set_cons_succ]
   refine hK.out _ _ ⟨⟨by simpa using hz,hS.grown gr4 hS.size (fun b hb=>r5 b hb)⟩,h0.k,h1.k,h2.k,h3.k,h4.k,⟨fun hl=> .inl (Lst.self (by rw [hz];omega))⟩,h6.k,h7.k,h8.k,h9.k,h10.k,⟨fun _=>⟨A4,c4,rfl,own4,fun b hb=>by rcases at4 b hb with e|e;exact r5 b e;rw [e];exact hS.size⟩⟩⟩
  exact StepsL.nil
 ·intro l f W hR hall
  obtain ⟨hS,h0,h1,h2,h3,h4,h5,h6,h7,h8,h9,h10,h11⟩:=hR
  have q0:=h0.out (hall 0 (by decide))
  have q1:=h1.out (hall 1 (by decide))
  have q2:=h2.out (hall 2 (by decide))
  have q3:=h3.out (hall 3 (by decide))
  have q4:=h4.out (hall 4 (by decide))
  have q5:=h5.out (hall 5 (by decide))
  have q6:=h6.out (hall 6 (by decide))
  have q7:=h7.out (hall 7 (by decide))
  have q8:=h8.out (hall 8 (by decide))
  have q9:=h9.out (hall 9 (by decide))
  have q10:=h10.out (hall 10 (by decide))
  have q11:=h11.out (hall 11 (by decide))
  clear h0 h1 h2 h3 h4 h5 h6 h7 h8 h9 h10 h11
  simp only [List.drop_succ_cons,List.drop_zero]
  obtain ⟨hz,hS⟩:=hS
  obtain ⟨A4,c4,e11,own4,r4⟩:=q11
  simp only [pfs]
  simp only [e11]
  clear q0 q1 q2 q3 q4 q5 q6 q7 q8 q9 q10 e11 hall
  obtain ⟨-,hx17,hx18,hWj⟩:=hw1.out
  have eE:d.jobs.eraseIdx bi=d.jobs.take bi++d.jobs.drop (bi+1):=List.eraseIdx_eq_take_drop_succ _ _
  have eL:bi+(d.jobs.length - (bi+1))=(d.jobs.eraseIdx bi).length:=by rw [eE,List.length_append,List.length_take,List.length_drop];omega
  rw [← List.flatMap_append,← eE,eL] at own4
  rw [eL] at r4⊢
  have hN:=hWj.jobsNew hS (d.jobs.eraseIdx bi) own4 r4
  have hJ8:WmJ w c S b17 b18 a {d with jobs:=d.jobs.eraseIdx bi} k j (W.setCell ⟨g9,0,none⟩ (.slice A4 (d.jobs.eraseIdx bi).length c4)):=by
   rw [KR.out]
   exact ⟨h17,_,_,_,_,_,hN.1,(hN.2 _ (.inl rfl)).trans hx17,(hN.2 _ (.inr rfl)).trans hx18⟩
  replace hJ8:=zH hJ8
  obtain ⟨cX,fX,zX⟩:=blk (KK.out W hS)
  clear hN eE eL own4 r4 hx17 hx18 hWj KK KJ hw1 hS KR
  go_wp2_with fail
  exact hQ.out _ _ _ _ _ _ _ _ _ _ _ _ _ _ hJ8.out
theorem wof300 (C:Code)(hC:C=stOf (condOf 300)){w:World}{c:TCfg}{S:TCfgS}{b17 b18 g10:Nat}{a:TAct}{d:TDom}{k:List (List TWay)}{j:TJob}{W:World}{m now:Int}{x:Int}{bi:Nat}(h10:g10=w.heap.size+2)(hW:WmJ w c S b17 b18 a d k j W)(hx:x=overA c a j)(hj:j=nth d.jobs bi)(hi:bi < d.jobs.length)(hjl:d.jobs.length≤100000)(hev:d.events.length+1≤4398046511104)
  {Q:Exit→Act→World→Prop}
  (hQ:∀(U2 U0 VY VW VU VS VQ VO VM VK VI VG VE VC VA Vy Vw Vu Vs Vq Vo:Value) (W':World),(WmJ w c S b17 b18 a (endJ c now a bi d) k j W')→Q .normal ⟨(KZ::(.int .i64 m)::KU::KS::KO::(.int .i64 now)::KI::(.pointer (some ⟨w.heap.size,0,none⟩))::Kz::(.pointer (some ⟨w.heap.size+1,0,none⟩))::(.pointer (some ⟨g10,0,none⟩))::Kt::Kr::Ko::Km::Kk::(.int .i64 (bi:Nat))::(.pointer (some ⟨b17,0,none⟩))::(.pointer (some ⟨b18,0,none⟩))::Kc::Ka::K8::K6::(.int .i64 x)::K1::LZ::LX::LV::LT::LR::LP::LN::LK::LI::LG::LE::LC::Lz::Lx::Lv::Lt::Lr::Lp::Ln::Ll::Lj::Lh::Lf::Ld::Lb::L6::MY::MW::MU::MS::MQ::MO::MM::MK::MI::MG::ME::MC::MA::My::Mw::Mu::Ms::Mq::Mo::Mm::Mk::Mi::Mg::Me::Mc::Ma::M8::M6::M4::M2::M0::NY::NW::NU::NS::NQ::NO::NL::NJ::NH::NF::ND::NB::Nz::Nx::Nv::Nt::Nr::Np::Nn::Nl::Nj::Nh::Nf::Nc::Na::N8::N6::N4::N2::OZ::OX::OV::OT::OR::OP::ON::OL::OJ::OH::OF::OD::OB::Oz::Ox::Ov::Ot::Oo::Om::Ok::Oi::Og::Oe::Oc::Oa::O8::O6::O4::O2::O0::PY::PW::PU::PS::PQ::PO::PM::PK::PI::PG::PE::PC::PA::Py::Pw::Pu::Ps::Pq::Po::Pm::Pj::Ph::Pf::Pd::Pb::P9::P7::P5::P3::P1::QZ::QX::QV::QT::QR::QP::QN::QL::QJ::QH::QF::QD::QB::Qz::Qx::Qv::Qt::Qr::Qp::Qn::Ql::Qj::Qh::Qf::Qd::Qb::Q9::RY::RV::RT::RR::RP::RM::RG::RE::Rz::Rx::Rv::Rt::Rr::Rp::Rl::Rj::Rh::Rf::Rc::Ra::R8::R5::SZ::SX::SV::ST::SR::SP::SN::SL::SJ::SH::SF::SD::SB::Sz::Sw::Su::Ss::Sq::So::Sm::Sj::Sh::Sf::Sd::Sb::S9::S7::S5::TZ::TX::TV::TT::TR::TP::TN::TL::TJ::TH::TF::TD::TB::Tz::Tw::Tu::Ts::Tq::To::Tm::Th::Tf::Td::Tb::UZ::UX::UV::UT::UR::UP::UN::UL::UJ::UH::UF::UD::UB::Uz::Ux::Uv::Ut::Ur::Up::Un::Ul::Uj::Uh::Uf::Ud::Ub::U9::U7::(.bool (decide (x > 0)))::U2::U0::VY::VW::VU::VS::VQ::VO::VM::VK::VI::VG::VE::VC::VA::Vy::Vw::Vu::Vs::Vq::Vo::Vn::Vl::Vj::Vh::Vf::Vd::[]).toArray,[]⟩ W'):
  Code.wp Try.prog C Q ⟨(KZ::(.int .i64 m)::KU::KS::KO::(.int .i64 now)::KI::(.pointer (some ⟨w.heap.size,0,none⟩))::Kz::(.pointer (some ⟨w.heap.size+1,0,none⟩))::(.pointer (some ⟨g10,0,none⟩))::Kt::Kr::Ko::Km::Kk::(.int .i64 (bi:Nat))::(.pointer (some ⟨b17,0,none⟩))::(.pointer (some ⟨b18,0,none⟩))::Kc::Ka::K8::K6::(.int .i64 x)::K1::LZ::LX::LV::LT::LR::LP::LN::LK::LI::LG::LE::LC::Lz::Lx::Lv::Lt::Lr::Lp::Ln::Ll::Lj::Lh::Lf::Ld::Lb::L6::MY::MW::MU::MS::MQ::MO::MM::MK::MI::MG::ME::MC::MA::My::Mw::Mu::Ms::Mq::Mo::Mm::Mk::Mi::Mg::Me::Mc::Ma::M8::M6::M4::M2::M0::NY::NW::NU::NS::NQ::NO::NL::NJ::NH::NF::ND::NB::Nz::Nx::Nv::Nt::Nr::Np::Nn::Nl::Nj::Nh::Nf::Nc::Na::N8::N6::N4::N2::OZ::OX::OV::OT::OR::OP::ON::OL::OJ::OH::OF::OD::OB::Oz::Ox::Ov::Ot::Oo::Om::Ok::Oi::Og::Oe::Oc::Oa::O8::O6::O4::O2::O0::PY::PW::PU::PS::PQ::PO::PM::PK::PI::PG::PE::PC::PA::Py::Pw::Pu::Ps::Pq::Po::Pm::Pj::Ph::Pf::Pd::Pb::P9::P7::P5::P3::P1::QZ::QX::QV::QT::QR::QP::QN::QL::QJ::QH::QF::QD::QB::Qz::Qx::Qv::Qt::Qr::Qp::Qn::Ql::Qj::Qh::Qf::Qd::Qb::Q9::RY::RV::RT::RR::RP::RM::RG::RE::Rz::Rx::Rv::Rt::Rr::Rp::Rl::Rj::Rh::Rf::Rc::Ra::R8::R5::SZ::SX::SV::ST::SR::SP::SN::SL::SJ::SH::SF::SD::SB::Sz::Sw::Su::Ss::Sq::So::Sm::Sj::Sh::Sf::Sd::Sb::S9::S7::S5::TZ::TX::TV::TT::TR::TP::TN::TL::TJ::TH::TF::TD::TB::Tz::Tw::Tu::Ts::Tq::To::Tm::Th::Tf::Td::Tb::UZ::UX::UV::UT::UR::UP::UN::UL::UJ::UH::UF::UD::UB::Uz::Ux::Uv::Ut::Ur::Up::Un::Ul::Uj::Uh::Uf::Ud::Ub::U9::U7::(.bool (decide (x > 0)))::U3::U1::VZ::VX::VV::VT::VR::VP::VN::VL::VJ::VH::VF::VD::VB::Vz::Vx::Vv::Vt::Vr::Vp::Vn::Vl::Vj::Vh::Vf::Vd::[]).toArray,[]⟩ W:=by
 subst hC
 subst h10
 replace hQ:=zH hQ
 conv=>arg 2;whnf
 have hJ0:=zH hW
 clear hW
 by_cases h0:x > 0
 ·have e1:decide (x > 0)=true:=by simpa using h0
  have em:=zH (show endJ c now a bi d= {tellOf d now x j.task j.number with jobs:=d.jobs.eraseIdx bi} by unfold endJ;rw [← hj,← hx,if_pos h0])
  rw [e1] at hQ⊢
  clear h0 e1 hx hj
  go_upto_region 53 with (fail)
  refine wofR53 _ (by kernel_rfl) rfl hJ0.out hev ?_
  intro _ _ _ _ _ _ _ _ W1 hJ1
  replace hJ1:=zH hJ1
  go_upto_region 54 with (fail)
  refine wofR54 (now:=now) _ (by kernel_rfl) rfl hJ1.out hi hjl ?_
  intro _ _ _ _ _ _ _ _ _ _ _ _ _ W2 hJ2
  replace hJ2:=zH hJ2
  go_wp2_with fail
  exact hQ.out _ _ _ _ _ _ _ _ _ _ _ _ _ _ _ _ _ _ _ _ _ _ (by rw [em.out];exact hJ2.out)
 ·have e1:decide (x > 0)=false:=by simpa using h0
  have em:=zH (show endJ c now a bi d=d by unfold endJ;rw [← hj,← hx,if_neg h0])
  rw [e1] at hQ⊢
  clear h0 e1 hx hj
  go_wp2_with fail
  exact hQ.out _ _ _ _ _ _ _ _ _ _ _ _ _ _ _ _ _ _ _ _ _ _ (by rw [em.out];exact hJ0.out)
def fromOf (p:Code→Bool):Code→Option Code
 | .seq a b=>if p a then some (.seq a b) else match fromOf p a with
  |some c=>some c
  |none=>fromOf p b
 | .cond _ a b=>match fromOf p a with
  |some c=>some c
  |none=>fromOf p b
 | .block _ c=>fromOf p c
 | .loop c=>fromOf p c
 | .scope c=>fromOf p c
 |_=>none
def seqR (k:Nat):Code→Bool
 | .seq (.region j _ _) _=>j==k
 |_=>false
noncomputable def sqOf (p:Code→Bool):Code:=((Try.f35.body.bind (fromOf p)).getD .skip)
theorem WmJ.ext {w:World}{c:TCfg}{S:TCfgS}{b17 b18:Nat}{a:TAct}{d:TDom}{k:List (List TWay)}{j:TJob}{W V:World}(h:WmJ w c S b17 b18 a d k j W)(hb:Below W.heap.size W V):WmJ w c S b17 b18 a d k j V:=by
 obtain ⟨h17,G,T,A,n,F,hg,x17,x18⟩:=h
 exact ⟨h17,G,T,A,n,F,hg.ext hb,(hb.block _ (blk x17).2.2).trans x17,(hb.block _ (blk x18).2.2).trans x18⟩
theorem WmJ.toR {w:World}{c:TCfg}{S:TCfgS}{b17 b18:Nat}{a:TAct}{d:TDom}{k:List (List TWay)}{j:TJob}{W:World}(h:WmJ w c S b17 b18 a d k j W):∃G T A n F,WmG w c S (fun _=>False) d k W G T A n F:=by
 obtain ⟨_,G,T,A,n,F,hg,_,_⟩:=h
 exact ⟨G,T,A,n,F,hg.sub fun _ h=>h.elim⟩
theorem nth_far {T:Type}[Inhabited T]{xs:List T}{i:Nat}(h:xs.length≤i):nth xs i=default:=by unfold nth;rw [List.getD_eq_getElem?_getD,List.getElem?_eq_none h];rfl
theorem midJ_jobs {c:TCfg}{m now:Int}{a:TAct}{co:Int}{d:TDom} :(midJ c m now a co d).jobs=d.jobs:=by
 unfold midJ happenA tellOf
 repeat' split
 all_goals rfl
structure DoPart (c:TCfg) (m now:Int) (a:TAct) (co:Int) (bi:Nat) (d du dm:TDom) (j ju:TJob):Prop where
 edu:du= {startT now j d with next:=(startT now j d).next+1,jobs:=(startT now j d).jobs.set bi ju}
 eju:ju= {j with ran:=true,used:=j.used+co}
 job:ju=nth dm.jobs bi
 mid:MidOk c (now+co) du
 edm:dm=midJ c m (now+co) a co du
 done:doA c m now bi a co d=endJ c (now+co) a bi dm
 lt:bi < (startT now j d).jobs.length
 lt2:bi < dm.jobs.length
 nj:dm.jobs.length≤100000
 ev:dm.events.length+1≤4398046511104
 ev0:d.events.length+1≤4398046511104
 nx:0≤(startT now j d).next∧(startT now j d).next < 100000
 us:0≤j.used∧j.used≤100000
 task:∃ti:Nat,ju.task=(ti:Int)∧ti < c.tasks.length
theorem do_part {c:TCfg}{m now:Int}{a:TAct}{co:Int}{bi:Nat}{d:TDom}(hc:CfgOk c)(hd:DomOkW c m d)(hi:bi < d.jobs.length)(hnx:d.next < 100000)(hco:0≤co∧co≤200)(hnow:0≤now∧now+co≤100000)(hev:d.events.length+4≤4398046511104)(hou:∀j,j < d.outs.length→(nth d.outs j).length+1≤4398046511104):
  DoPart c m now a co bi d (usedJ co bi (startJ now bi d)) (midJ c m (now+co) a co (usedJ co bi (startJ now bi d))) (nth d.jobs bi) {nth d.jobs bi with ran:=true,used:=(nth d.jobs bi).used+co} :=by
 have hn1:(startJ now bi d).next=d.next:=by unfold startJ tellOf;split<;>rfl
 have hs1:=startJ_ok (now:=now) hd hi
 have hu:=usedJ_ok (cost:=co) hc hs1.1 (by rw [hs1.2];exact hi) (by omega) hco
 have g1:=startJ_grow now bi d
 have g2:=midJ_grow c m (now+co) a co (usedJ co bi (startJ now bi d))
 have e0:(usedJ co bi (startJ now bi d)).events=(startJ now bi d).events:=rfl
 have o0:(usedJ co bi (startJ now bi d)).outs=(startJ now bi d).outs:=rfl
 rw [e0] at g2
 have hjo:=hd.job bi hi
 have hbu:=budget_le hc hjo
 have nx:(startT now (nth d.jobs bi) d).next=d.next:=by unfold startT tellOf;split<;>rfl
 have jl:(startT now (nth d.jobs bi) d).jobs=d.jobs:=by unfold startT tellOf;split<;>rfl
 have hq:=hc.quantum
 have hr:∀i,(nth (usedJ co bi (startJ now bi d)).ins i).vals.length≤100000:=fun i=>by
  by_cases h:i < (usedJ co bi (startJ now bi d)).ins.length
  ·have:=checkRing_zero.1 (hu.ring i h);omega
  ·rw [nth_far (by omega)];exact Nat.zero_le _
 have hs:∀i,(nth (usedJ co bi (startJ now bi d)).outs i).length+1≤4398046511104:=fun i=>by
  rw [o0,g1.2]
  by_cases h:i < d.outs.length
  ·exact hou i h
  ·rw [nth_far (by omega)];show 0+1≤_;omega
 obtain ⟨ti,hti⟩:=Int.eq_ofNat_of_zero_le hjo.task.1
 exact ⟨used_parts hi,rfl,by rw [midJ_jobs];exact (used_job hi).symm,⟨by rw [e0];omega,by omega,by have:=hu.next;omega,by omega,hu.lin,hu.lout,hu.ltak,hr,hs⟩,rfl,rfl,by rw [jl];exact hi,by rw [midJ_jobs];exact hu.lt,by rw [midJ_jobs];have:=hu.njobs;omega,by omega,by omega,by rw [nx];have:=hd.next;omega,by have:=hjo.used;omega,ti,hti,by have:=hjo.task;omega⟩
theorem wofDo (C:Code)(hC:C=sqOf (seqR 13)){w:World}{c:TCfg}{S:TCfgS}{b17 b18 g10:Nat}{a:TAct}{d:TDom}{k:List (List TWay)}{j:TJob}{W:World}{m now:Int}{bi:Nat}(h10:g10=w.heap.size+2)(hW:WmJ w c S b17 b18 a d k j W)(hj:j=nth d.jobs bi)(hc:CfgOk c)(ok:CacheOk k)(ha:ActOk a)(hd:DomOkW c m d)(hi:bi < d.jobs.length)(hnx:d.next < 100000)(hnow:0≤now∧now+worstA a≤100000)(hev:d.events.length+4≤4398046511104)(hou:∀j,j < d.outs.length→(nth d.outs j).length+1≤4398046511104)
  {Q:Exit→Act→World→Prop}
  (hQ:∀(Kb K9 K7 K5 K2 M3 M1 NZ NX NV NT NR NP NM NK NI NG NE NC NA Ny Nw Nu Ns Nq No Nm Nk Ni Ng Nd Nb N9 N7 N5 N3 N0 OY OW OU OS OQ OO OM OK OI OG OE OC OA Oy Ow Ou Oq On Ol Oj Oh Of Od Ob O9 O7 O5 O3 O1 PZ PX PV PT PR PP PN PL PJ PH PF PD PB Pz Px Pv Pt Pr Pp Pn Pk Pi Pg Pe Pc Pa P8 P6 P4 P2 P0 QY QW QU QS QQ QO QM QK QI QG QE QC QA Qy Qw Qu Qs Qq Qo Qm Qk Qi Qg Qe Qc Qa RZ RW RU RS RQ RO RI RF RD Ry Rw Ru Rs Rq Ro Rk Ri Rg Re Rb R9 R7 R4 SY SW SU SS SQ SO SM SK SI SG SE SC SA Sy Sv St Sr Sp Sn Sk Si Sg Se Sc Sa S8 S6 S3 TY TW TU TS TQ TO TM TK TI TG TE TC TA Ty Tv Tt Tr Tp Tn Tl Tg Te Tc Ta UY UW UU US UQ UO UM UK UI UG UE UC UA Uy Uw Uu Us Uq Uo Um Uk Ui Ug Ue Uc Ua U8 U6 U4 U2 U0 VY VW VU VS VQ VO VM VK VI VG VE VC VA Vy Vw Vu Vs Vq Vo:Value) (W':World),(∃G T A n F,WmG w c S (fun _=>False) (doA c m now bi a (spendN k a) d) (spendK k a) W' G T A n F)→Q .normal ⟨(KZ::(.int .i64 m)::KU::KS::KO:: .int .i64 (now+spendN k a)::KI::(.pointer (some ⟨w.heap.size,0,none⟩))::Kz::(.pointer (some ⟨w.heap.size+1,0,none⟩))::(.pointer (some ⟨g10,0,none⟩))::Kt::Kr::Ko::Km::Kk::(.int .i64 (bi:Nat))::(.pointer (some ⟨b17,0,none⟩))::(.pointer (some ⟨b18,0,none⟩))::Kb::K9::K7::K5::K2::K1::LZ::LX::LV::LT::LR::LP::LN::LK::LI::LG::LE::LC::Lz::Lx::Lv::Lt::Lr::Lp::Ln::Ll::Lj::Lh::Lf::Ld::Lb::L6::MY::MW::MU::MS::MQ::MO::MM::MK::MI::MG::ME::MC::MA::My::Mw::Mu::Ms::Mq::Mo::Mm::Mk::Mi::Mg::Me::Mc::Ma::M8::M6::M3::M1::NZ::NX::NV::NT::NR::NP::NM::NK::NI::NG::NE::NC::NA::Ny::Nw::Nu::Ns::Nq::No::Nm::Nk::Ni::Ng::Nd::Nb::N9::N7::N5::N3::N0::OY::OW::OU::OS::OQ::OO::OM::OK::OI::OG::OE::OC::OA::Oy::Ow::Ou::Oq::On::Ol::Oj::Oh::Of::Od::Ob::O9::O7::O5::O3::O1::PZ::PX::PV::PT::PR::PP::PN::PL::PJ::PH::PF::PD::PB::Pz::Px::Pv::Pt::Pr::Pp::Pn::Pk::Pi::Pg::Pe::Pc::Pa::P8::P6::P4::P2::P0::QY::QW::QU::QS::QQ::QO::QM::QK::QI::QG::QE::QC::QA::Qy::Qw::Qu::Qs::Qq::Qo::Qm::Qk::Qi::Qg::Qe::Qc::Qa::RZ::RW::RU::RS::RQ::RO::RI::RF::RD::Ry::Rw::Ru::Rs::Rq::Ro::Rk::Ri::Rg::Re::Rb::R9::R7::R4::SY::SW::SU::SS::SQ::SO::SM::SK::SI::SG::SE::SC::SA::Sy::Sv::St::Sr::Sp::Sn::Sk::Si::Sg::Se::Sc::Sa::S8::S6::S3::TY::TW::TU::TS::TQ::TO::TM::TK::TI::TG::TE::TC::TA::Ty::Tv::Tt::Tr::Tp::Tn::Tl::Tg::Te::Tc::Ta::UY::UW::UU::US::UQ::UO::UM::UK::UI::UG::UE::UC::UA::Uy::Uw::Uu::Us::Uq::Uo::Um::Uk::Ui::Ug::Ue::Uc::Ua::U8::U6::U4::U2::U0::VY::VW::VU::VS::VQ::VO::VM::VK::VI::VG::VE::VC::VA::Vy::Vw::Vu::Vs::Vq::Vo::Vn::Vl::Vj::Vh::Vf::Vd::[]).toArray,[]⟩ W'):
  Code.wp Try.prog C Q ⟨(KZ::(.int .i64 m)::KU::KS::KO::(.int .i64 now)::KI::(.pointer (some ⟨w.heap.size,0,none⟩))::Kz::(.pointer (some ⟨w.heap.size+1,0,none⟩))::(.pointer (some ⟨g10,0,none⟩))::Kt::Kr::Ko::Km::Kk::(.int .i64 (bi:Nat))::(.pointer (some ⟨b17,0,none⟩))::(.pointer (some ⟨b18,0,none⟩))::Kc::Ka::K8::K6::K4::K1::LZ::LX::LV::LT::LR::LP::LN::LK::LI::LG::LE::LC::Lz::Lx::Lv::Lt::Lr::Lp::Ln::Ll::Lj::Lh::Lf::Ld::Lb::L6::MY::MW::MU::MS::MQ::MO::MM::MK::MI::MG::ME::MC::MA::My::Mw::Mu::Ms::Mq::Mo::Mm::Mk::Mi::Mg::Me::Mc::Ma::M8::M6::M4::M2::M0::NY::NW::NU::NS::NQ::NO::NL::NJ::NH::NF::ND::NB::Nz::Nx::Nv::Nt::Nr::Np::Nn::Nl::Nj::Nh::Nf::Nc::Na::N8::N6::N4::N2::OZ::OX::OV::OT::OR::OP::ON::OL::OJ::OH::OF::OD::OB::Oz::Ox::Ov::Ot::Oo::Om::Ok::Oi::Og::Oe::Oc::Oa::O8::O6::O4::O2::O0::PY::PW::PU::PS::PQ::PO::PM::PK::PI::PG::PE::PC::PA::Py::Pw::Pu::Ps::Pq::Po::Pm::Pj::Ph::Pf::Pd::Pb::P9::P7::P5::P3::P1::QZ::QX::QV::QT::QR::QP::QN::QL::QJ::QH::QF::QD::QB::Qz::Qx::Qv::Qt::Qr::Qp::Qn::Ql::Qj::Qh::Qf::Qd::Qb::Q9::RY::RV::RT::RR::RP::RM::RG::RE::Rz::Rx::Rv::Rt::Rr::Rp::Rl::Rj::Rh::Rf::Rc::Ra::R8::R5::SZ::SX::SV::ST::SR::SP::SN::SL::SJ::SH::SF::SD::SB::Sz::Sw::Su::Ss::Sq::So::Sm::Sj::Sh::Sf::Sd::Sb::S9::S7::S5::TZ::TX::TV::TT::TR::TP::TN::TL::TJ::TH::TF::TD::TB::Tz::Tw::Tu::Ts::Tq::To::Tm::Th::Tf::Td::Tb::UZ::UX::UV::UT::UR::UP::UN::UL::UJ::UH::UF::UD::UB::Uz::Ux::Uv::Ut::Ur::Up::Un::Ul::Uj::Uh::Uf::Ud::Ub::U9::U7::U5::U3::U1::VZ::VX::VV::VT::VR::VP::VN::VL::VJ::VH::VF::VD::VB::Vz::Vx::Vv::Vt::Vr::Vp::Vn::Vl::Vj::Vh::Vf::Vd::[]).toArray,[]⟩ W:=by
 subst hC
 subst h10
 replace hQ:=zH hQ
 conv=>arg 2;whnf
 have hsp:=spend_bd (k:=k) ha
 have hwb:=worstA_bd ha
 obtain ⟨du,dm,ju,hP⟩:∃du dm ju,DoPart c m now a (spendN k a) bi d du dm j ju:=⟨_,_,_,hj ▸ do_part hc hd hi hnx (by omega) (by omega) hev hou⟩
 replace hP:=zH hP
 have hWo:=zH (fun V=>refWorstOf a V)
 replace hj:=zH hj
 clear hi hnx hev hou hd
 obtain ⟨_,_,_,_,_,_,_,_,hx18⟩:=id hW
 obtain ⟨c8,f8,z8⟩:=blk hx18
 clear hx18
 go_upto_if 81 with (fail)
 clear c8 f8 z8
 refine wof81 _ (by kernel_rfl) rfl hW hP.out.ev0 ?_
 intro _ _ _ _ _ _ _ W1 hJ1
 replace hJ1:=zH hJ1
 obtain ⟨_,_,_,_,_,_,_,hx17,_⟩:=hJ1.out
 obtain ⟨ca,fa,za⟩:=blk hx17
 clear hx17 hW
 go_wp2_with fail
 go_at_call 28
 refine (hWo.out _).mono ?_
 rintro e W2 ⟨rfl,hb2⟩
 have hJ2:=zH (hJ1.out.ext hb2)
 clear ca fa za hb2 hJ1
 go_upto_region 16 with (fail)
 refine wofR16 (now:=now) _ (by kernel_rfl) rfl hJ2.out ?_
 intro _ _ _ _ _ _ _ W3 e3
 subst e3
 go_upto_if 98 with (fail)
 refine wof98 (now:=now) _ (by kernel_rfl) rfl hJ2.out ok ha ?_
 intro _ _ _ _ _ _ _ _ _ _ W4 hJ4
 replace hJ4:=zH hJ4
 clear hJ2 ok
 generalize spendN k a=co at*
 generalize spendK k a=k' at*
 go_upto_region 19 with (fail)
 refine wofR19 (now:=now) _ (by kernel_rfl) rfl hJ4.out hP.out.nx ?_
 intro _ _ _ _ W5 hJ5
 replace hJ5:=zH hJ5
 go_upto_region 20 with (fail)
 refine wofR20 (now:=now) _ (by kernel_rfl) rfl hJ5.out ?_
 intro _ W6 hJ6
 replace hJ6:=zH hJ6
 go_upto_region 21 with (fail)
 refine wofR21 (now:=now) _ (by kernel_rfl) rfl hJ6.out hP.out.us (by omega) ?_
 intro _ _ _ _ _ W7 hJ7
 replace hJ7:=zH hJ7
 go_upto_region 22 with (fail)
 refine wofR22 (now:=now) _ (by kernel_rfl) rfl hJ7.out hP.out.lt ?_
 intro _ _ _ _ _ W8 hJ8
 replace hJ8:=zH hJ8
 replace hJ8:Hid (WmJ w c S b17 b18 a du k' ju W8):=zH (by rw [hP.out.edu,hP.out.eju];exact hJ8.out)
 clear hJ4 hJ5 hJ6 hJ7
 obtain ⟨_,_,_,_,_,_,_,hx17,_⟩:=hJ8.out
 obtain ⟨ca,fa,za⟩:=blk hx17
 clear hx17
 go_upto_block 2 with (fail)
 refine wofB2 (now:=now) _ (by kernel_rfl) rfl hJ8.out hc ha ?_
 intro _ _ _ _ _ _ _ _ _ _ _ _ _ _ _ _ _ _ _ _ _ _ _ _ _ _ _ _ _ _ _ _ _ _ _ _ _ _ _ _ _ _ _ _ _ _ _ _ _ _ _ _ _ _ _ _ W9 e9
 subst e9
 clear ca fa za
 go_upto_block 3 with (fail)
 refine wofB3 _ (by kernel_rfl) rfl hJ8.out ha hP.out.mid ?_
 intro _ _ _ _ _ _ _ _ _ _ _ _ _ _ _ _ _ _ _ _ _ _ _ _ _ _ _ _ _ _ _ _ _ _ _ _ _ _ _ _ _ _ _ _ _ _ _ _ _ _ _ _ _ _ _ _ _ _ _ _ _ _ _ _ _ _ _ _ _ _ _ _ _ _ _ _ _ _ _ _ _ _ _ _ _ _ _ _ _ _ _ _ _ _ _ _ _ _ _ _ _ _ _ W10 hJ10
 replace hJ10:=zH hJ10
 rw [← hP.out.edm] at hJ10
 clear hJ8
 obtain ⟨ti,htk,hti⟩:=hP.out.task
 replace htk:=zH htk
 go_upto_region 48 with (fail)
 refine wofR48 (now:=now) _ (by kernel_rfl) rfl hJ10.out htk.out hti ?_
 intro _ _ _ _ _ _ _ _ _ W11 hJ11
 replace hJ11:=zH hJ11
 clear hJ10 hti htk
 have hfin:=zH (fun W' (h:WmJ w c S b17 b18 a (endJ c (now+co) a bi dm) k' ju W')=>(by rw [hP.out.done];exact h.toR:∃G T A n F,WmG w c S (fun _=>False) (doA c m now bi a co d) k' W' G T A n F))
 have hov:overA c a ju=if a.kind=8 then 4 else if (taskOf c ju.task).budget≤ju.used then 5 else 0:=rfl
 by_cases hb:(taskOf c ju.task).budget≤ju.used
 ·have bb:decide ((taskOf c ju.task).budget≤ju.used)=true:=by simpa using hb
  rw [if_pos hb] at hov
  rw [bb]
  replace hov:=zH hov
  clear hb bb
  go_upto_region 50 with (fail)
  refine wofR50 (now:=now) _ (by kernel_rfl) rfl hJ11.out ?_
  intro _ _ W12 e12
  subst e12
  by_cases hk:a.kind=8
  ·have bk:decide (a.kind=8)=true:=by simpa using hk
   have hv:=hov.out
   rw [if_pos hk] at hv
   rw [bk]
   replace hv:=zH hv
   clear hk bk hov
   go_upto_if 300 with (fail)
   refine wof300 _ (by kernel_rfl) rfl hJ11.out hv.out.symm hP.out.job hP.out.lt2 hP.out.nj hP.out.ev ?_
   intro _ _ _ _ _ _ _ _ _ _ _ _ _ _ _ _ _ _ _ _ _ W13 hJ13
   replace hJ13:=hfin.out _ hJ13
   go_wp2_with fail
   exact hQ.out _ _ _ _ _ _ _ _ _ _ _ _ _ _ _ _ _ _ _ _ _ _ _ _ _ _ _ _ _ _ _ _ _ _ _ _ _ _ _ _ _ _ _ _ _ _ _ _ _ _ _ _ _ _ _ _ _ _ _ _ _ _ _ _ _ _ _ _ _ _ _ _ _ _ _ _ _ _ _ _ _ _ _ _ _ _ _ _ _ _ _ _ _ _ _ _ _ _ _ _ _ _ _ _ _ _ _ _ _ _ _ _ _ _ _ _ _ _ _ _ _ _ _ _ _ _ _ _ _ _ _ _ _ _ _ _ _ _ _ _ _ _ _ _ _ _ _ _ _ _ _ _ _ _ _ _ _ _ _ _ _ _ _ _ _ _ _ _ _ _ _ _ _ _ _ _ _ _ _ _ _ _ _ _ _ _ _ _ _ _ _ _ _ _ _ _ _ _ _ _ _ _ _ _ _ _ _ _ _ _ _ _ _ _ _ _ _ _ _ _ _ _ _ _ _ _ _ _ _ _ _ _ _ _ _ _ _ _ _ _ _ _ _ _ _ _ _ _ _ hJ13
  ·have bk:decide (a.kind=8)=false:=by simpa using hk
   have hv:=hov.out
   rw [if_neg hk] at hv
   rw [bk]
   replace hv:=zH hv
   clear hk bk hov
   go_upto_if 300 with (fail)
   refine wof300 _ (by kernel_rfl) rfl hJ11.out hv.out.symm hP.out.job hP.out.lt2 hP.out.nj hP.out.ev ?_
   intro _ _ _ _ _ _ _ _ _ _ _ _ _ _ _ _ _ _ _ _ _ W13 hJ13
   replace hJ13:=hfin.out _ hJ13
   go_wp2_with fail
   exact hQ.out _ _ _ _ _ _ _ _ _ _ _ _ _ _ _ _ _ _ _ _ _ _ _ _ _ _ _ _ _ _ _ _ _ _ _ _ _ _ _ _ _ _ _ _ _ _ _ _ _ _ _ _ _ _ _ _ _ _ _ _ _ _ _ _ _ _ _ _ _ _ _ _ _ _ _ _ _ _ _ _ _ _ _ _ _ _ _ _ _ _ _ _ _ _ _ _ _ _ _ _ _ _ _ _ _ _ _ _ _ _ _ _ _ _ _ _ _ _ _ _ _ _ _ _ _ _ _ _ _ _ _ _ _ _ _ _ _ _ _ _ _ _ _ _ _ _ _ _ _ _ _ _ _ _ _ _ _ _ _ _ _ _ _ _ _ _ _ _ _ _ _ _ _ _ _ _ _ _ _ _ _ _ _ _ _ _ _ _ _ _ _ _ _ _ _ _ _ _ _ _ _ _ _ _ _ _ _ _ _ _ _ _ _ _ _ _ _ _ _ _ _ _ _ _ _ _ _ _ _ _ _ _ _ _ _ _ _ _ _ _ _ _ _ _ _ _ _ _ _ hJ13
 ·have bb:decide ((taskOf c ju.task).budget≤ju.used)=false:=by simpa using hb
  rw [if_neg hb] at hov
  rw [bb]
  replace hov:=zH hov
  clear hb bb
  go_upto_region 50 with (fail)
  refine wofR50 (now:=now) _ (by kernel_rfl) rfl hJ11.out ?_
  intro _ _ W12 e12
  subst e12
  by_cases hk:a.kind=8
  ·have bk:decide (a.kind=8)=true:=by simpa using hk
   have hv:=hov.out
   rw [if_pos hk] at hv
   rw [bk]
   replace hv:=zH hv
   clear hk bk hov
   go_upto_if 300 with (fail)
   refine wof300 _ (by kernel_rfl) rfl hJ11.out hv.out.symm hP.out.job hP.out.lt2 hP.out.nj hP.out.ev ?_
   intro _ _ _ _ _ _ _ _ _ _ _ _ _ _ _ _ _ _ _ _ _ W13 hJ13
   replace hJ13:=hfin.out _ hJ13
   go_wp2_with fail
   exact hQ.out _ _ _ _ _ _ _ _ _ _ _ _ _ _ _ _ _ _ _ _ _ _ _ _ _ _ _ _ _ _ _ _ _ _ _ _ _ _ _ _ _ _ _ _ _ _ _ _ _ _ _ _ _ _ _ _ _ _ _ _ _ _ _ _ _ _ _ _ _ _ _ _ _ _ _ _ _ _ _ _ _ _ _ _ _ _ _ _ _ _ _ _ _ _ _ _ _ _ _ _ _ _ _ _ _ _ _ _ _ _ _ _ _ _ _ _ _ _ _ _ _ _ _ _ _ _ _ _ _ _ _ _ _ _ _ _ _ _ _ _ _ _ _ _ _ _ _ _ _ _ _ _ _ _ _ _ _ _ _ _ _ _ _ _ _ _ _ _ _ _ _ _ _ _ _ _ _ _ _ _ _ _ _ _ _ _ _ _ _ _ _ _ _ _ _ _ _ _ _ _ _ _ _ _ _ _ _ _ _ _ _ _ _ _ _ _ _ _ _ _ _ _ _ _ _ _ _ _ _ _ _ _ _ _ _ _ _ _ _ _ _ _ _ _ _ _ _ _ _ hJ13
  ·have bk:decide (a.kind=8)=false:=by simpa using hk
   have hv:=hov.out
   rw [if_neg hk] at hv
   rw [bk]
   replace hv:=zH hv
   clear hk bk hov
   go_upto_if 300 with (fail)
   refine wof300 _ (by kernel_rfl) rfl hJ11.out hv.out.symm hP.out.job hP.out.lt2 hP.out.nj hP.out.ev ?_
   intro _ _ _ _ _ _ _ _ _ _ _ _ _ _ _ _ _ _ _ _ _ W13 hJ13
   replace hJ13:=hfin.out _ hJ13
   go_wp2_with fail
   exact hQ.out _ _ _ _ _ _ _ _ _ _ _ _ _ _ _ _ _ _ _ _ _ _ _ _ _ _ _ _ _ _ _ _ _ _ _ _ _ _ _ _ _ _ _ _ _ _ _ _ _ _ _ _ _ _ _ _ _ _ _ _ _ _ _ _ _ _ _ _ _ _ _ _ _ _ _ _ _ _ _ _ _ _ _ _ _ _ _ _ _ _ _ _ _ _ _ _ _ _ _ _ _ _ _ _ _ _ _ _ _ _ _ _ _ _ _ _ _ _ _ _ _ _ _ _ _ _ _ _ _ _ _ _ _ _ _ _ _ _ _ _ _ _ _ _ _ _ _ _ _ _ _ _ _ _ _ _ _ _ _ _ _ _ _ _ _ _ _ _ _ _ _ _ _ _ _ _ _ _ _ _ _ _ _ _ _ _ _ _ _ _ _ _ _ _ _ _ _ _ _ _ _ _ _ _ _ _ _ _ _ _ _ _ _ _ _ _ _ _ _ _ _ _ _ _ _ _ _ _ _ _ _ _ _ _ _ _ _ _ _ _ _ _ _ _ _ _ _ _ _ hJ13
def WinLeft (w:World) (d:TDom) (k:List (List TWay)) (A:Option Addr) (n:Nat) (T:TDomS) (W:World):Prop:=
 W.heap[w.heap.size+3]?=some (.cells #[.slice T.a0 d.jobs.length T.n0,.slice T.a1 d.released.length T.n1,.int .i64 d.next,.slice T.a2 d.ins.length T.n2,.slice T.a3 d.taken.length T.n3,.slice T.a4 d.outs.length T.n4,.slice T.a5 d.events.length T.n5] 45)∧W.heap[w.heap.size+4]?=some (.cells #[.slice A k.length n] 63)∧
 (∃G,DomO G W d T∧∀i b,G i b→w.heap.size≤b)∧(∃F,Sl cWay.slice F W A n k∧∀b,F b→b < W.heap.size∧(b+2 < w.heap.size∨w.heap.size≤b))∧Below w.heap.size w W
theorem wofR55 (C:Code)(hC:C=stOf (regionNo 55)){w:World}{c:TCfg}{S:TCfgS}{E:Nat→Prop}{d:TDom}{k:List (List TWay)}{W:World}{G:Nat→Nat→Prop}{T:TDomS}{A:Option Addr}{n:Nat}{F:Nat→Prop}{m to_:Int}{g10 g14 g15:Nat}(h10:g10=w.heap.size+2)(h14:g14=w.heap.size+3)(h15:g15=w.heap.size+4)(hW:WmG w c S E d k W G T A n F)(hc:CfgOk c)(hd:DomOkW c m d)(hto:0≤to_∧to_≤100000)(hev:d.events.length+44≤4398046511104)
  {Q:Exit→Act→World→Prop}
  (hQ:∀(Vm Vk Vi Vg Ve Vc:Value) (T2:TDomS) (W':World),WinLeft w (releaseOf c m to_ d) k A n T2 W'→Q .normal ⟨[KZ,(.int .i64 m),KU,KS,KO,KM,(.int .i64 to_),(.pointer (some ⟨w.heap.size,0,none⟩)),Kz,(.pointer (some ⟨w.heap.size+1,0,none⟩)),(.pointer (some ⟨g10,0,none⟩)),Kt,Kr,Ko,(.pointer (some ⟨g14,0,none⟩)),(.pointer (some ⟨g15,0,none⟩)),Ki,Kg,Ke,Kc,Ka,K8,K6,K4,K1,LZ,LX,LV,LT,LR,LP,LN,LK,LI,LG,LE,LC,Lz,Lx,Lv,Lt,Lr,Lp,Ln,Ll,Lj,Lh,Lf,Ld,Lb,L6,MY,MW,MU,MS,MQ,MO,MM,MK,MI,MG,ME,MC,MA,My,Mw,Mu,Ms,Mq,Mo,Mm,Mk,Mi,Mg,Me,Mc,Ma,M8,M6,M4,M2,M0,NY,NW,NU,NS,NQ,NO,NL,NJ,NH,NF,ND,NB,Nz,Nx,Nv,Nt,Nr,Np,Nn,Nl,Nj,Nh,Nf,Nc,Na,N8,N6,N4,N2,OZ,OX,OV,OT,OR,OP,ON,OL,OJ,OH,OF,OD,OB,Oz,Ox,Ov,Ot,Oo,Om,Ok,Oi,Og,Oe,Oc,Oa,O8,O6,O4,O2,O0,PY,PW,PU,PS,PQ,PO,PM,PK,PI,PG,PE,PC,PA,Py,Pw,Pu,Ps,Pq,Po,Pm,Pj,Ph,Pf,Pd,Pb,P9,P7,P5,P3,P1,QZ,QX,QV,QT,QR,QP,QN,QL,QJ,QH,QF,QD,QB,Qz,Qx,Qv,Qt,Qr,Qp,Qn,Ql,Qj,Qh,Qf,Qd,Qb,Q9,RY,RV,RT,RR,RP,RM,RG,RE,Rz,Rx,Rv,Rt,Rr,Rp,Rl,Rj,Rh,Rf,Rc,Ra,R8,R5,SZ,SX,SV,ST,SR,SP,SN,SL,SJ,SH,SF,SD,SB,Sz,Sw,Su,Ss,Sq,So,Sm,Sj,Sh,Sf,Sd,Sb,S9,S7,S5,TZ,TX,TV,TT,TR,TP,TN,TL,TJ,TH,TF,TD,TB,Tz,Tw,Tu,Ts,Tq,To,Tm,Th,Tf,Td,Tb,UZ,UX,UV,UT,UR,UP,UN,UL,UJ,UH,UF,UD,UB,Uz,Ux,Uv,Ut,Ur,Up,Un,Ul,Uj,Uh,Uf,Ud,Ub,U9,U7,U5,U3,U1,VZ,VX,VV,VT,VR,VP,VN,VL,VJ,VH,VF,VD,VB,Vz,Vx,Vv,Vt,Vr,Vp,Vm,Vk,Vi,Vg,Ve,Vc].toArray,[]⟩ W'):
  Code.wp Try.prog C Q ⟨[KZ,(.int .i64 m),KU,KS,KO,KM,(.int .i64 to_),(.pointer (some ⟨w.heap.size,0,none⟩)),Kz,(.pointer (some ⟨w.heap.size+1,0,none⟩)),(.pointer (some ⟨g10,0,none⟩)),Kt,Kr,Ko,(.pointer (some ⟨g14,0,none⟩)),(.pointer (some ⟨g15,0,none⟩)),Ki,Kg,Ke,Kc,Ka,K8,K6,K4,K1,LZ,LX,LV,LT,LR,LP,LN,LK,LI,LG,LE,LC,Lz,Lx,Lv,Lt,Lr,Lp,Ln,Ll,Lj,Lh,Lf,Ld,Lb,L6,MY,MW,MU,MS,MQ,MO,MM,MK,MI,MG,ME,MC,MA,My,Mw,Mu,Ms,Mq,Mo,Mm,Mk,Mi,Mg,Me,Mc,Ma,M8,M6,M4,M2,M0,NY,NW,NU,NS,NQ,NO,NL,NJ,NH,NF,ND,NB,Nz,Nx,Nv,Nt,Nr,Np,Nn,Nl,Nj,Nh,Nf,Nc,Na,N8,N6,N4,N2,OZ,OX,OV,OT,OR,OP,ON,OL,OJ,OH,OF,OD,OB,Oz,Ox,Ov,Ot,Oo,Om,Ok,Oi,Og,Oe,Oc,Oa,O8,O6,O4,O2,O0,PY,PW,PU,PS,PQ,PO,PM,PK,PI,PG,PE,PC,PA,Py,Pw,Pu,Ps,Pq,Po,Pm,Pj,Ph,Pf,Pd,Pb,P9,P7,P5,P3,P1,QZ,QX,QV,QT,QR,QP,QN,QL,QJ,QH,QF,QD,QB,Qz,Qx,Qv,Qt,Qr,Qp,Qn,Ql,Qj,Qh,Qf,Qd,Qb,Q9,RY,RV,RT,RR,RP,RM,RG,RE,Rz,Rx,Rv,Rt,Rr,Rp,Rl,Rj,Rh,Rf,Rc,Ra,R8,R5,SZ,SX,SV,ST,SR,SP,SN,SL,SJ,SH,SF,SD,SB,Sz,Sw,Su,Ss,Sq,So,Sm,Sj,Sh,Sf,Sd,Sb,S9,S7,S5,TZ,TX,TV,TT,TR,TP,TN,TL,TJ,TH,TF,TD,TB,Tz,Tw,Tu,Ts,Tq,To,Tm,Th,Tf,Td,Tb,UZ,UX,UV,UT,UR,UP,UN,UL,UJ,UH,UF,UD,UB,Uz,Ux,Uv,Ut,Ur,Up,Un,Ul,Uj,Uh,Uf,Ud,Ub,U9,U7,U5,U3,U1,VZ,VX,VV,VT,VR,VP,VN,VL,VJ,VH,VF,VD,VB,Vz,Vx,Vv,Vt,Vr,Vp,Vn,Vl,Vj,Vh,Vf,Vd].toArray,[]⟩ W:=by
 subst hC
 subst h10
 subst h14
 subst h15
 replace hQ:=zH hQ
 conv=>arg 2;whnf
 have hsz:=hW.size
 have HRel:=zH (fun V (hb:Below W.heap.size W V)=>refReleaseOf c S m to_ d T hc hd (by omega) (by omega) G w.heap.size V (by have:=hb.size;omega) (hW.ext hb).dp.cfg (hW.ext hb).dp.dom fun i b hi=>((hW.ext hb).dp.apart i b hi).2)
 obtain ⟨c0,f0,z0⟩:=blk hW.b0
 obtain ⟨c1,f1,z1⟩:=blk hW.dp.blk
 obtain ⟨c2,f2,z2⟩:=blk hW.kb
 have hG0:Hid (∀i b,G i b→w.heap.size+5≤b):=zH hW.gg
 have hWh:=zH hW
 obtain ⟨dR,hdR⟩:∃x,x=releaseOf c m to_ d:=⟨_,rfl⟩
 rw [← hdR] at hQ HRel
 clear hdR hW
 go_region_held3 (fun w'=>(∀oo,w'.cell? ⟨w.heap.size,oo,none⟩=#[.int .i64 c.sets,.int .i64 c.ways,.int .i64 c.doms,.int .i64 c.pad,.int .i64 c.quantum,.slice S.a0 c.slots.length S.n0,.slice S.a1 c.owners.length S.n1,.slice S.a2 c.chans.length S.n2,.slice S.a3 c.tasks.length S.n3][oo]?)∧(∀oo,w'.cell? ⟨w.heap.size+1,oo,none⟩=#[.slice T.a0 d.jobs.length T.n0,.slice T.a1 d.released.length T.n1,.int .i64 d.next,.slice T.a2 d.ins.length T.n2,.slice T.a3 d.taken.length T.n3,.slice T.a4 d.outs.length T.n4,.slice T.a5 d.events.length T.n5][oo]?)∧(∀oo,w'.cell? ⟨w.heap.size+2,oo,none⟩=#[.slice A k.length n][oo]?)) (((try dsimp only);(repeat' apply And.intro)<;>(first|with_reducible assumption|(intro oo;with_reducible refine (cell_heapD (dom_far ?_) oo).trans (d0 oo)<;>omega)|(intro oo;with_reducible refine (cell_heapD (dom_far_d ?_) oo).trans (d0 oo)<;>omega)|(intro oo;with_reducible refine (cell_heapD (raw_far0 ?_ ?_) oo).trans (d0 oo)<;>omega)|(intro oo;with_reducible refine (cell_heapD (raw_far ?_ ?_) oo).trans (d0 oo)<;>omega)|(intro oo;with_reducible refine (cell_heapD (drew_far _ _) oo).trans (d0 oo)<;>omega)|(intro oo;with_reducible refine (cell_heapD (dom_far ?_) oo).trans (d1 oo)<;>omega)|(intro oo;with_reducible refine (cell_heapD (dom_far_d ?_) oo).trans (d1 oo)<;>omega)|(intro oo;with_reducible refine (cell_heapD (raw_far0 ?_ ?_) oo).trans (d1 oo)<;>omega)|(intro oo;with_reducible refine (cell_heapD (raw_far ?_ ?_) oo).trans (d1 oo)<;>omega)|(intro oo;with_reducible refine (cell_heapD (drew_far _ _) oo).trans (d1 oo)<;>omega)|(intro oo;with_reducible refine (cell_heapD (dom_far ?_) oo).trans (d2 oo)<;>omega)|(intro oo;with_reducible refine (cell_heapD (dom_far_d ?_) oo).trans (d2 oo)<;>omega)|(intro oo;with_reducible refine (cell_heapD (raw_far0 ?_ ?_) oo).trans (d2 oo)<;>omega)|(intro oo;with_reducible refine (cell_heapD (raw_far ?_ ?_) oo).trans (d2 oo)<;>omega)|(intro oo;with_reducible refine (cell_heapD (drew_far _ _) oo).trans (d2 oo)<;>omega)|go_keep))) (first|(go_at_call 73;refine (HRel.out _ byB).mono ?_;rintro e w2 ⟨T2,G2,rfl,hO2,hE2⟩;refine have_then (P:=w2.heap[w.heap.size]?=some (.cells #[.int .i64 c.sets,.int .i64 c.ways,.int .i64 c.doms,.int .i64 c.pad,.int .i64 c.quantum,.slice S.a0 c.slots.length S.n0,.slice S.a1 c.owners.length S.n1,.slice S.a2 c.chans.length S.n2,.slice S.a3 c.tasks.length S.n3] 27)) ((hE2.keep _ (by first|omega|(simp;omega)) (fun i hi=>by have:=hG0.out i _ hi;omega)).trans hWh.out.b0) (fun k0=>?_);obtain ⟨d0,g0,y0⟩:=blk k0;refine have_then (P:=w2.heap[w.heap.size+1]?=some (.cells #[.slice T.a0 d.jobs.length T.n0,.slice T.a1 d.released.length T.n1,.int .i64 d.next,.slice T.a2 d.ins.length T.n2,.slice T.a3 d.taken.length T.n3,.slice T.a4 d.outs.length T.n4,.slice T.a5 d.events.length T.n5] 45)) ((hE2.keep _ (by first|omega|(simp;omega)) (fun i hi=>by have:=hG0.out i _ hi;omega)).trans hWh.out.dp.blk) (fun k1=>?_);obtain ⟨d1,g1,y1⟩:=blk k1;refine have_then (P:=w2.heap[w.heap.size+2]?=some (.cells #[.slice A k.length n] 63)) ((hE2.keep _ (by first|omega|(simp;omega)) (fun i hi=>by have:=hG0.out i _ hi;omega)).trans hWh.out.kb) (fun k2=>?_);obtain ⟨d2,g2,y2⟩:=blk k2;refine have_then (P:=w2.heap[w.heap.size+3]?=some (.cells #[.slice none 0 0,.slice none 0 0,.int .i64 0,.slice none 0 0,.slice none 0 0,.slice none 0 0,.slice none 0 0] 45)) ((hE2.keep _ (by first|omega|(simp;omega)) (fun i hi=>by have:=hG0.out i _ hi;omega)).trans hWh.out.b3) (fun k3=>?_);obtain ⟨d3,g3,y3⟩:=blk k3;refine have_then (P:=w2.heap[w.heap.size+4]?=some (.cells #[.slice none 0 0] 63)) ((hE2.keep _ (by first|omega|(simp;omega)) (fun i hi=>by have:=hG0.out i _ hi;omega)).trans hWh.out.b4) (fun k4=>?_);obtain ⟨d4,g4,y4⟩:=blk k4))
 clear d0 d1 d2 g0 g1 g2 c0 c1 c2 f0 f1 f2 k0 k1 k2 HRel
 have hG2:Hid (∀i b,G2 i b→w.heap.size+5≤b):=zH fun i b hi=>by
  rcases hE2.grow i b hi with e|e
  ·exact hG0.out i b e
  ·have e1:=e.1
   simp at e1
   omega
 have hF:Hid (∀b,F b→b < W.heap.size∧(b+2 < w.heap.size∨w.heap.size+5≤b)∧∀i,¬ G i b):=zH hWh.out.ff
 have hwb:=hWh.out.below
 have hb2:Below w.heap.size w w2:=(Below.drew hwb).trans hE2.below
 have hsz2:W.heap.size≤w2.heap.size:=by have:=hE2.below.size;simpa using this
 have hSl:=zH (hWh.out.kr.keep fun b hb=>hE2.keep b (hF.out b hb).1 (hF.out b hb).2.2)
 refine hQ.out _ _ _ _ _ _ T2 _ ⟨heap_set_far (dom_set (u0:= .slice T2.a0 dR.jobs.length T2.n0) (u1:= .slice T2.a1 dR.released.length T2.n1) (u2:= .int .i64 dR.next) (u3:= .slice T2.a2 dR.ins.length T2.n2) (u4:= .slice T2.a3 dR.taken.length T2.n3) (u5:= .slice T2.a4 dR.outs.length T2.n4) (u6:= .slice T2.a5 dR.events.length T2.n5) k3) (by simp),?_,⟨G2,hO2.keep (fun i b hi=>raw_far0 (by have:=hG2.out i b hi;omega) (by have:=hG2.out i b hi;omega)) (by simp),fun i b hi=>by have:=hG2.out i b hi;omega⟩,⟨F,hSl.out.keep fun b hb=>raw_far0 (by have:=(hF.out b hb).2.1;omega) (by have:=(hF.out b hb).2.1;omega),fun b hb=>⟨by have:=(hF.out b hb).1;simp;omega,by have:=(hF.out b hb).2.1;omega⟩⟩,raw0_below hb2 (by omega) (by omega)⟩
 have:=heap_set_same (i:=0) (u:= .slice A k.length n) ((dom_far (u0:= .slice T2.a0 dR.jobs.length T2.n0) (u1:= .slice T2.a1 dR.released.length T2.n1) (u2:= .int .i64 dR.next) (u3:= .slice T2.a2 dR.ins.length T2.n2) (u4:= .slice T2.a3 dR.taken.length T2.n3) (u5:= .slice T2.a4 dR.outs.length T2.n4) (u6:= .slice T2.a5 dR.events.length T2.n5) (show w.heap.size+4≠w.heap.size+3 by omega)).trans k4)
 simpa using this
end
end Go.Proofs.Ytinlmkhlgclbfab

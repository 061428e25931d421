/- A part of the proof: what its functions compute. -/
import Derived.Test.YtjiiakjheghcoaaGreatDoorGc8
set_option linter.unusedVariables false
set_option linter.unusedSimpArgs false
set_option maxRecDepth 100000
set_option maxHeartbeats 64000000
set_option linter.unusedSectionVars false
namespace Go.Proofs.Q0
open Go Go.RowKit
structure Ev where
 core:Int
 id:Int
 ns:Int
 done:Bool
 gone:Bool
deriving DecidableEq
abbrev Ev.cells (x:Ev):List Value:=[.int .i64 x.core,.int .i64 x.id,.int .u64 x.ns,.bool x.done,.bool x.gone]
def NA (l:List Ev):List Value:=(l.map Ev.cells).flatten
theorem Yg (l:List Ev) (x:Ev):NA (l ++ [x])=NA l ++ x.cells:=by simp [NA]
structure Sy where
 cf:Cf
 t:List Tk
 k:List Cs
structure Ch where
 s:Sy
 ev:List Ev
def BK (x:Tk):Bool:=x.st == 1 || x.st == 2
def AF (s:Sy) (k:Int):Cs:=s.k.getD k.toNat (Dw 0)
def BF (s:Sy) (k:Int) (c:Cs):Sy:={ s with k:=s.k.set k.toNat c }
def Bk (s:Sy) (x:Tk):Sy:={ s with t:=Et s.t x }
def UW (k:Int) (p:Pr):Ev:=⟨k,p.id,p.ns,p.done,false⟩
def Dx (s:Sy) (g:Gn):Tk:={ AV s.t g.id with st:=3,lag:=Fa s.cf g.lag (AV s.t g.id).slice }
def DN (k:Int) (s:Ch) (g:Gn):Ch:=⟨Bk s.s (Dx s.s g),s.ev ++ [⟨k,g.id,0,false,true⟩]⟩
def GB (k:Int) (s:Ch) (p:Pr):Ch:=⟨s.s,s.ev ++ [UW k p]⟩
def Ay (s:Ch) (k:Int) (r:Rp):Ch:=r.g.foldl (DN k) (r.p.foldl (GB k) s)
def BO (s:Ch) (x:Tk):Int × Ch :=
 let c:=AF s.s x.core
 let l:=Ab c x.id
 (Fa s.s.cf (Bj c.A x.id) x.slice,Ay ⟨BF s.s x.core (Bh c l.1 l.2),s.ev⟩ x.core (BH l.1 l.2 .none))
def Dg (s:Ch) (k:Int) (l:Int × Cs × Rp):Int × Ch :=
 if l.1=0 then (0,Ay ⟨BF s.s k (Bh (AF s.s k) l.1 l.2.1),s.ev⟩ k (BH l.1 l.2.1 l.2.2)) else (l.1,s)
def E0 (s:Ch) (x:Tk) (lag:Int):Int × Ch:=Dg s x.core ((Bc (AF s.s x.core) x.id x.w x.slice lag).1,(Bc (AF s.s x.core) x.id x.w x.slice lag).2,.none)
def DV (s:Sy) (core w slice:Int):Int:=GR [Ci s.cf core,Ar w 1048576,Ar slice (DO s.cf.slice)]
def BU (core w slice:Int):Tk:=⟨0,1,core,IntKind.u32.wrap w,slice,0⟩
def B8 (s:Ch) (core w slice:Int):Int × Int × Ch :=
 if DV s.s core w slice≠0 then (DV s.s core w slice,0,s) else
 if E9 s.s.t (BU core w slice)≠0 then (E9 s.s.t (BU core w slice),0,s) else
 let n:=E5 s.s.t (BU core w slice)
 let j:=E0 ⟨{ s.s with t:=Dp s.s.t (BU core w slice) },s.ev⟩ { BU core w slice with id:=n } 0
 if j.1=0 then (0,n,j.2) else (j.1,0,s)
def Ey (s:Ch) (x:Tk) (id:Int):Int × Ch :=
 let s1:=if BK x=true then (BO s x).2 else s
 (DG (BI s1.s.t id),⟨{ s1.s with t:=Fl s1.s.t id },s1.ev⟩)
def ES (s:Ch) (x:Tk) (id:Int):Tk :=
 let y:=CA (AF s.s x.core) id
 if y.1=true then { x with st:=3,lag:=Fa s.s.cf y.2 x.slice } else { x with st:=2 }
def Df (s:Ch) (x:Tk) (l:Int × Cs × Rp):Int × Ch :=
 if l.1=0 then (0,Ay ⟨Bk (BF s.s x.core (Bh (AF s.s x.core) l.1 l.2.1)) x,s.ev⟩ x.core (BH l.1 l.2.1 l.2.2)) else (l.1,s)
def GA (s:Ch) (x:Tk) (id:Int):Int × Ch :=
 if x.st≠1 then (6,s) else
 let l:=B9 (AF s.s x.core) id
 Df s (ES s x id) (l.1,l.2,.none)
def EX (s:Ch) (x:Tk) (id:Int):Int × Ch :=
 if x.st=1 then (6,s) else
 if x.st=3 then E0 ⟨Bk s.s { x with st:=1 },s.ev⟩ { x with st:=1 } x.lag else
 let l:=CE (AF s.s x.core) id
 Df s { x with st:=1 } (l.1,l.2,.none)
def DQ (s:Ch) (x:Tk) (id w:Int):Int × Ch :=
 if Ar w 1048576≠0 then (Ar w 1048576,s) else
 let y:={ x with w:=IntKind.u32.wrap w }
 let s1:Ch:=⟨Bk s.s y,s.ev⟩
 if BK x=false then (0,s1) else
 let l:=Be (AF s.s x.core) id y.w
 Dg s1 x.core (l.1,l.2,.none)
def Dy (s:Ch) (x:Tk) (id ns:Int):Int × Ch :=
 if Ar ns (DO s.s.cf.slice)≠0 then (Ar ns (DO s.s.cf.slice),s) else
 let y:={ x with slice:=ns }
 let s1:Ch:=⟨Bk s.s y,s.ev⟩
 if BK x=false then (0,s1) else
 let l:=Bf (AF s.s x.core) id ns
 Dg s1 x.core (l.1,l.2,.none)
def Dz (x:Tk) (core lag:Int):Tk:={ x with core:=core,lag:=lag,st:=if x.st=2 then 3 else x.st }
def CU (s:Ch) (x:Tk) (core:Int):Int × Ch :=
 if Ci s.s.cf core≠0∨core=x.core then (Ci s.s.cf core,s) else
 let l:=if BK x=true then BO s x else (x.lag,s)
 let y:=Dz x core l.1
 let s1:Ch:=⟨Bk l.2.s y,l.2.ev⟩
 if y.st=1 then E0 s1 y y.lag else (0,s1)
def DI:Nat→Nat→Ch→Int→Int × Ch
 | 0,_,s,_=>(0,s)
 | n+1,k,s,ns =>
   let l:=AX (AF s.s k) ns
   if l.1=0 then DI n (k+1) (Ay ⟨BF s.s k (Bh (AF s.s k) l.1 l.2.1),s.ev⟩ k (BH l.1 l.2.1 l.2.2)) ns else (l.1,s)
def Ek (s:Ch) (ns:Int):Int × Ch :=
 if Ar ns (DO s.s.cf.tick)≠0 then (Ar ns (DO s.s.cf.tick),s) else DI s.s.k.length 0 s ns
def CG (s:Ch) (id:Int) (f:Ch→Tk→Int × Ch):Int × Ch:=if DG (BI s.s.t id)≠0 then (DG (BI s.s.t id),s) else f s (AV s.s.t id)
def Dt (s:Sy) (l:Int × Ch):List Ev × Sy:=if l.1=0 then (l.2.ev,l.2.s) else ([],s)
structure CR where
 d:Int
 id:Int
 core:Int
 w:Int
 ns:Int
abbrev CR.cells (a:CR):List Value:=[.int .u8 a.d,.int .i64 a.id,.int .i64 a.core,.int .u64 a.w,.int .u64 a.ns]
def CR.In (a:CR):Prop:=(0≤a.d∧a.d < 256)∧In64 a.id∧In64 a.core∧BL a.w∧BL a.ns
def CS (s:Sy) (a:CR):Int × Ch :=
 let c:Ch:=⟨s,[]⟩
 if a.d % 12 < 2 then ((B8 c a.core a.w a.ns).1,(B8 c a.core a.w a.ns).2.2)
 else if a.d % 12=2 then CG c a.id fun s x=>Ey s x a.id
 else if a.d % 12 < 5 then CG c a.id fun s x=>GA s x a.id
 else if a.d % 12 < 7 then CG c a.id fun s x=>EX s x a.id
 else if a.d % 12=7 then CG c a.id fun s x=>DQ s x a.id a.w
 else if a.d % 12=8 then CG c a.id fun s x=>Dy s x a.id a.ns
 else if a.d % 12=9 then CG c a.id fun s x=>CU s x a.core
 else Ek c a.ns
def Fo (s:Sy) (a:CR):Int:=if a.d % 12 < 2 then (B8 ⟨s,[]⟩ a.core a.w a.ns).2.1 else 0
def GN (c:Cf):Sy:=⟨c,List.replicate (FU c.tasks) .zero,List.replicate c.cores.toNat (Dw c.origin)⟩
def CV (n:Int) (x:Tk):Prop:=In64 x.id∧(0≤x.st∧x.st < 256)∧In64 x.core∧Fk x.w∧BL x.slice∧In64 x.lag∧(x.st≠0→0≤x.core∧x.core < n)
theorem CV.zero (n:Int):CV n .zero:=⟨by decide,by decide,by decide,by decide,by decide,by decide,fun h=>absurd rfl h⟩
structure Eh (s:Sy):Prop where
 cf:s.cf.In
 lo:1≤s.cf.cores
 hi:s.cf.cores≤8
 len:(s.k.length:Int)=s.cf.cores
 row:∀ x∈s.t,CV s.cf.cores x
 tl:s.t.length≤32
theorem Vd {n:Int} {l:List Tk} (h:∀ x∈l,CV n x) {y:Tk} (hy:CV n y) (i:Nat):∀ x∈l.set i y,CV n x:=fun x hx=>by
 rcases List.mem_or_eq_of_mem_set hx with h1 | rfl
 ·exact h x h1
 ·exact hy
theorem vF {n:Int} {l:List Tk} (h:∀ x∈l,CV n x) {y:Tk} (hy:CV n y):∀ x∈Et l y,CV n x:=by
 unfold Et
 cases Bd y with
 | false=>exact h
 | true =>
   cases BI l y.id with
   | none=>exact h
   | some i=>exact Vd h hy i
theorem Xi {n:Int} {l:List Tk} (h:∀ x∈l,CV n x) (id:Int):∀ x∈Fl l id,CV n x:=by
 unfold Fl
 cases BI l id with
 | none=>exact h
 | some i=>exact Vd h (CV.zero n) i
theorem ok_task {n:Int} {l:List Tk} (h:∀ x∈l,CV n x) (id:Int):CV n (AV l id):=by
 unfold AV
 cases e:BI l id with
 | none=>exact CV.zero n
 | some i =>
   have hi:=(Ik e).1
   show CV n (l.getD i .zero)
   rw [List.getD_eq_getElem?_getD,List.getElem?_eq_getElem hi]
   exact h _ (List.getElem_mem hi)
theorem ZP {n:Int} {l:List Tk} (h:∀ x∈l,CV n x) (hl:l.length≤32) {y:Tk} (hy:CV n y):∀ x∈Dp l y,CV n x:=by
 unfold Dp
 cases Bd y with
 | false=>exact h
 | true =>
   cases e:Ds l with
   | none=>exact h
   | some i =>
     have hi:=LZ e
     have hn:In64 ((i:Int)+1):=by unfold In64;omega
     exact Vd (y:={ y with id:=(i:Int)+1 }) h ⟨hn,hy.2⟩ i
theorem task_st {l:List Tk} {id:Int} (h:DG (BI l id)=0):(AV l id).st≠0:=by
 cases e:BI l id with
 | none=>rw [e] at h;cases h
 | some i =>
   obtain ⟨x,h1,h2,_⟩:=Nj e
   unfold AV
   rw [e]
   show (l.getD i .zero).st≠0
   rw [List.getD_eq_getElem?_getD,h1]
   exact h2
theorem Lh (c:Cf) (x s:Int):In64 (Fa c x s):=mX (aJ _ _)
theorem Eh.To {s:Sy} (h:Eh s) (k:Int) (c:Cs):Eh (BF s k c):=⟨h.cf,h.lo,h.hi,by show ((s.k.set k.toNat c).length:Int)=_;rw [List.length_set];exact h.len,h.row,h.tl⟩
theorem Eh.rows {s:Sy} (h:Eh s) {t:List Tk} (ht:∀ x∈t,CV s.cf.cores x) (hl:t.length=s.t.length):Eh { s with t:=t }:=⟨h.cf,h.lo,h.hi,h.len,ht,by show t.length≤32;rw [hl];exact h.tl⟩
theorem Eh.Bu {s:Sy} (h:Eh s) {x:Tk} (hx:CV s.cf.cores x):Eh (Bk s x):=h.rows (vF h.row hx) (p9 _ _)
theorem CV.r8 {s:Sy} (h:Eh s) (g:Gn):CV s.cf.cores (Dx s g):=by
 have hx:=ok_task h.row g.id
 by_cases e:(AV s.t g.id).st=0
 ·cases k:BI s.t g.id with
  | none =>
    have ez:AV s.t g.id = .zero:=by unfold AV;rw [k]
    have:=h.lo
    unfold Dx
    rw [ez]
    exact ⟨(by decide:In64 0),(by decide:(0:Int)≤3∧(3:Int) < 256),(by decide:In64 0),(by decide:Fk 0),(by decide:BL 0),Lh _ _ _,fun _=>⟨Int.le_refl _,by show (0:Int) < _;omega⟩⟩
  | some i=>exact absurd e (task_st (by rw [k];rfl))
 ·exact ⟨hx.1,(by decide:(0:Int)≤3∧(3:Int) < 256),hx.2.2.1,hx.2.2.2.1,hx.2.2.2.2.1,Lh _ _ _,fun _=>hx.2.2.2.2.2.2 e⟩
theorem O5 (k:Int):∀ (l:List Pr) (s:Ch),(l.foldl (GB k) s).s=s.s∧(l.foldl (GB k) s).ev=s.ev ++ l.map (UW k)
 | [],s=>⟨rfl,by simp⟩
 | p :: l,s=>by
   obtain ⟨h1,h2⟩:=O5 k l (GB k s p)
   refine ⟨h1,?_⟩
   rw [List.foldl_cons,h2]
   simp [GB]
theorem ZF (k:Int):∀ (l:List Gn) (s:Ch),Eh s.s→Eh (l.foldl (DN k) s).s∧(l.foldl (DN k) s).s.cf=s.s.cf∧(l.foldl (DN k) s).s.k=s.s.k
 | [],s,h=>⟨h,rfl,rfl⟩
 | g :: l,s,h=>ZF k l (DN k s g) (h.Bu (CV.r8 h g))
theorem ok_absorb {s:Ch} (h:Eh s.s) (k:Int) (r:Rp):Eh (Ay s k r).s∧(Ay s k r).s.cf=s.s.cf∧(Ay s k r).s.k=s.s.k:=by
 obtain ⟨e1,_⟩:=O5 k r.p s
 obtain ⟨h1,h2,h3⟩:=ZF k r.g (r.p.foldl (GB k) s) (by rw [e1];exact h)
 rw [e1] at h2 h3
 exact ⟨h1,h2,h3⟩
theorem Tl (k:Int):∀ (l:List Gn) (s:Ch),(l.foldl (DN k) s).ev=s.ev ++ l.map (fun g=>⟨k,g.id,0,false,true⟩)
 | [],s=>by simp
 | g :: l,s=>by rw [List.foldl_cons,Tl k l];simp [DN]
theorem MB (s:Ch) (k:Int) (r:Rp):(Ay s k r).ev=s.ev ++ r.p.map (UW k) ++ r.g.map (fun g=>⟨k,g.id,0,false,true⟩):=by
 unfold Ay
 rw [Tl,(O5 k r.p s).2]
end Go.Proofs.Q0
namespace Go.Proofs.Q0
open Go Go.RowKit Go.ChangeShapes Go.WideShapes Go.ChangeAt
theorem U4 : Tryz.prog.underlying 24 = some (.struct #[{ name := "Cores", type := 3, offset := 0, embedded := false, tag := "", pkgPath := "", byteOffset := 0 }, { name := "Tasks", type := 3, offset := 1, embedded := false, tag := "", pkgPath := "", byteOffset := 8 }, { name := "Tick", type := 22, offset := 2, embedded := false, tag := "", pkgPath := "", byteOffset := 16 }, { name := "Slice", type := 22, offset := 3, embedded := false, tag := "", pkgPath := "", byteOffset := 24 }, { name := "Origin", type := 22, offset := 4, embedded := false, tag := "", pkgPath := "", byteOffset := 32 }]) := by kernel_rfl
theorem qL {H:Type} {enc:TypeId × Value→H} {W:World} {r:Reach} {b0 base:Nat} {spare:Nat→Bool} {held:Bool} {v:Value} {d:DataW H} {p:List MemPlace} (hv:Value.okWide Tryz.prog W r b0 24 v)
 (h:DataW.Trod enc Tryz.prog W base spare held 24 v d p):∃ c:Cf,c.In∧v=QX c:=by
 obtain ⟨cs,rfl,hsz⟩:=okWide_struct U4 hv
 have hC:Tryz.prog.cellsOf 24=5:=by kernel_rfl
 rw [hC] at hsz
 obtain ⟨l⟩:=cs
 match l,hsz with
 | [v0,v1,v2,v3,v4],_ =>
   obtain ⟨fuel,hf⟩:=h
   obtain ⟨xs,n,_,_,hl,hlen,hq⟩:=DataW.trod_struct U4 hf
   match xs,hlen with
   | [y0,y1,y2,y3,y4],_ =>
     have c1:Tryz.prog.cellsOf 3=1:=by kernel_rfl
     have c2:Tryz.prog.cellsOf 22=1:=by kernel_rfl
     have h0:=hq 0 _ rfl
     have h1:=hq 1 _ rfl
     have h2:=hq 2 _ rfl
     have h3:=hq 3 _ rfl
     have h4:=hq 4 _ rfl
     obtain ⟨a0,e0,_,w0⟩:=DataW.trod_int (t:=3) (k := .i64) (by kernel_rfl) h0
     obtain ⟨a1,e1,_,w1⟩:=DataW.trod_int (t:=3) (k := .i64) (by kernel_rfl) h1
     obtain ⟨a2,e2,_,w2⟩:=DataW.trod_int (t:=22) (k := .u64) (by kernel_rfl) h2
     obtain ⟨a3,e3,_,w3⟩:=DataW.trod_int (t:=22) (k := .u64) (by kernel_rfl) h3
     obtain ⟨a4,e4,_,w4⟩:=DataW.trod_int (t:=22) (k := .u64) (by kernel_rfl) h4
     have q0:v0 = .int .i64 a0:=by
      have e:List.take (Tryz.prog.cellsOf 3) (List.drop 0 [v0,v1,v2,v3,v4])=[.int .i64 a0]:=e0
      rw [c1] at e;simpa using e
     have q1:v1 = .int .i64 a1:=by
      have e:List.take (Tryz.prog.cellsOf 3) (List.drop 1 [v0,v1,v2,v3,v4])=[.int .i64 a1]:=e1
      rw [c1] at e;simpa using e
     have q2:v2 = .int .u64 a2:=by
      have e:List.take (Tryz.prog.cellsOf 22) (List.drop 2 [v0,v1,v2,v3,v4])=[.int .u64 a2]:=e2
      rw [c2] at e;simpa using e
     have q3:v3 = .int .u64 a3:=by
      have e:List.take (Tryz.prog.cellsOf 22) (List.drop 3 [v0,v1,v2,v3,v4])=[.int .u64 a3]:=e3
      rw [c2] at e;simpa using e
     have q4:v4 = .int .u64 a4:=by
      have e:List.take (Tryz.prog.cellsOf 22) (List.drop 4 [v0,v1,v2,v3,v4])=[.int .u64 a4]:=e4
      rw [c2] at e;simpa using e
     exact ⟨⟨a0,a1,a2,a3,a4⟩,⟨Pm w0,Pm w1,NN w2,NN w3,NN w4⟩,by rw [q0,q1,q2,q3,q4];rfl⟩
theorem YY : Tryz.prog.underlying 33 = some (.struct #[{ name := "Do", type := 5, offset := 0, embedded := false, tag := "", pkgPath := "", byteOffset := 0 }, { name := "ID", type := 3, offset := 1, embedded := false, tag := "", pkgPath := "", byteOffset := 8 }, { name := "Core", type := 3, offset := 2, embedded := false, tag := "", pkgPath := "", byteOffset := 16 }, { name := "W", type := 22, offset := 3, embedded := false, tag := "", pkgPath := "", byteOffset := 24 }, { name := "Ns", type := 22, offset := 4, embedded := false, tag := "", pkgPath := "", byteOffset := 32 }]) := by kernel_rfl
theorem QZ:Tryz.prog.cellsOf 33=5:=by kernel_rfl
theorem nI {H:Type} {enc:TypeId × Value→H} {W:World} {base:Nat} {spare:Nat→Bool} {held:Bool} (fuel:Nat) (cs:List Value) (x) (h:DataW.trod enc Tryz.prog W base spare held fuel 33 cs=some x):∃ q:CR,cs=[.int .u8 q.d,.int .i64 q.id,.int .i64 q.core,.int .u64 q.w,.int .u64 q.ns]∧CR.In q:=by
 obtain ⟨xs,n,_,_,hl,hlen,hq⟩:=DataW.trod_struct YY h
 rw [QZ] at hl
 match cs,hl with
 | [v0,v1,v2,v3,v4],_ =>
   match xs,hlen with
   | [y0,y1,y2,y3,y4],_ =>
     have h0:=hq 0 _ rfl
     obtain ⟨a0,e0,_,w0⟩:=DataW.trod_int (t:=5) (k := .u8) (by kernel_rfl) h0
     replace w0:=zW w0
     have q0:v0 = .int .u8 a0:=by
      have e:List.take (Tryz.prog.cellsOf 5) (List.drop 0 [v0,v1,v2,v3,v4])=[.int .u8 a0]:=e0
      rw [show Tryz.prog.cellsOf 5=1 by kernel_rfl] at e;simpa using e
     have h1:=hq 1 _ rfl
     obtain ⟨a1,e1,_,w1⟩:=DataW.trod_int (t:=3) (k := .i64) (by kernel_rfl) h1
     replace w1:=Pm w1
     have q1:v1 = .int .i64 a1:=by
      have e:List.take (Tryz.prog.cellsOf 3) (List.drop 1 [v0,v1,v2,v3,v4])=[.int .i64 a1]:=e1
      rw [show Tryz.prog.cellsOf 3=1 by kernel_rfl] at e;simpa using e
     have h2:=hq 2 _ rfl
     obtain ⟨a2,e2,_,w2⟩:=DataW.trod_int (t:=3) (k := .i64) (by kernel_rfl) h2
     replace w2:=Pm w2
     have q2:v2 = .int .i64 a2:=by
      have e:List.take (Tryz.prog.cellsOf 3) (List.drop 2 [v0,v1,v2,v3,v4])=[.int .i64 a2]:=e2
      rw [show Tryz.prog.cellsOf 3=1 by kernel_rfl] at e;simpa using e
     have h3:=hq 3 _ rfl
     obtain ⟨a3,e3,_,w3⟩:=DataW.trod_int (t:=22) (k := .u64) (by kernel_rfl) h3
     replace w3:=NN w3
     have q3:v3 = .int .u64 a3:=by
      have e:List.take (Tryz.prog.cellsOf 22) (List.drop 3 [v0,v1,v2,v3,v4])=[.int .u64 a3]:=e3
      rw [show Tryz.prog.cellsOf 22=1 by kernel_rfl] at e;simpa using e
     have h4:=hq 4 _ rfl
     obtain ⟨a4,e4,_,w4⟩:=DataW.trod_int (t:=22) (k := .u64) (by kernel_rfl) h4
     replace w4:=NN w4
     have q4:v4 = .int .u64 a4:=by
      have e:List.take (Tryz.prog.cellsOf 22) (List.drop 4 [v0,v1,v2,v3,v4])=[.int .u64 a4]:=e4
      rw [show Tryz.prog.cellsOf 22=1 by kernel_rfl] at e;simpa using e
     subst q0
     subst q1
     subst q2
     subst q3
     subst q4
     exact ⟨⟨a0,a1,a2,a3,a4⟩,rfl,⟨w0,w1,w2,w3,w4⟩⟩
instance:Inhabited CR:=⟨⟨0,0,0,0,0⟩⟩
theorem Yy {H:Type} {enc:TypeId × Value→H} {W:World} {r:Reach} {b0 base:Nat} {spare:Nat→Bool} {held:Bool} {v:Value} {d:DataW H} {p:List MemPlace} (hv:Value.okWide Tryz.prog W r b0 25 v)
 (h:DataW.Trod enc Tryz.prog W base spare held 25 v d p):∃ xs:List CR,TF W 5 v (xs.map CR.cells)∧∀ a∈xs,a.In :=
 open_rows (cells:=CR.cells) (by kernel_rfl) QZ (by decide) (fun _=>rfl) nI hv h
end Go.Proofs.Q0
namespace Go.Proofs.Q0
open Go Go.RowKit
attribute [local irreducible] XS XC XA AZ AP Aa A1 A0 A8 Ad AW SE
def I0:Tk:=⟨0,1,0,0,0,0⟩
def MW (n:Nat):List Tk:=match n with
 | 0=>List.replicate (FU 3) .zero
 | 1=>Dp (List.replicate (FU 3) .zero) I0
 | 2=>Dp (Dp (List.replicate (FU 3) .zero) I0) I0
 | 3=>Dp (Dp (Dp (List.replicate (FU 3) .zero) I0) I0) I0
 | _=>Fl (Dp (Dp (Dp (List.replicate (FU 3) .zero) I0) I0) I0) 2
theorem a20:E5 (MW 0) I0=1∧E9 (MW 0) I0=0∧E5 (MW 1) I0=2∧E9 (MW 1) I0=0∧E5 (MW 2) I0=3∧E9 (MW 2) I0=0∧DG (BI (MW 3) 2)=0∧E5 (MW 4) I0=2∧E9 (MW 4) I0=0:=by decide
theorem Yc (w0:World) (ht:D3 w0):AO Tryz.prog 61 #[] w0 fun v w'=>v = .bool true∧AA [] w0 w':=by
 have hs:=St.nil w0
 obtain ⟨e1,e2,e3,e4,e5,e6,e7,e8,e9⟩:=a20
 refine AR Tryz.func61 Tryz.ntmps61 (k:=?_)
 refine Ja ?_
 refine cl (h:=by exact Vi 3 _) (k:=?_)
 rintro v w1 ⟨⟨tb,rb,rfl,hT,g1,g2,hne⟩,AK⟩
 have BB:=(hs.AD rfl).trans AK
 have tM:=(hs.AD rfl).size
 have lr:rb < w1.heap.size:=by obtain ⟨_,_,_,h,_⟩:=hT;exact lt_of_block h
 clear hs
 have hs:=St.nil w1
 repeat' (first|refine Sa ?_|(refine AU hs (k:=?_);intro w hs)|(refine al hs (k:=?_);intro b w hz hs)|fail)
 have gb:=hs.new _ List.mem_cons_self rfl
 simp only at gb
 have hnb:b∉[rb]:=by simp;omega
 have zM:=hs.AB [] (by simp) (by simp [D0])
 refine cl (h:=by exact Lr tb rb (MW 0) I0 _ (hT.only zM)) (k:=?_)
 rw [e1,e2]
 rintro v w2 ⟨rfl,Bv,aAF⟩
 have hb0:=aAF.block (hs.get (b:=b) (by repeat (first | exact At.head | (with_reducible apply At.tail)))) hnb
 have aCC:=(BB.trans zM).step aAF (fun k hk => .inr (by obtain rfl:=List.mem_singleton.1 hk;exact g2))
 clear hs
 have hs:=(St.nil w2).AE hb0
 refine Ja ?_
 have aAY:=hs.AB [] (by simp [hb0]) (by simp [D0])
 refine cl (h:=by exact Lr tb rb (MW 1) I0 _ (Bv.only aAY)) (k:=?_)
 rw [e3,e4]
 rintro v w3 ⟨rfl,Kr,aAN⟩
 have CN:=aAN.block (hs.get (b:=b) (by repeat (first | exact At.head | (with_reducible apply At.tail)))) hnb
 have aBi:=(aCC.trans aAY).step aAN (fun k hk => .inr (by obtain rfl:=List.mem_singleton.1 hk;exact g2))
 clear hs
 have hs:=(St.nil w3).AE CN
 refine Ja ?_
 have aAq:=hs.AB [] (by simp [CN]) (by simp [D0])
 refine cl (h:=by exact Lr tb rb (MW 2) I0 _ (Kr.only aAq)) (k:=?_)
 rw [e5,e6]
 rintro v w4 ⟨rfl,Fh,aAB⟩
 have ED:=aAB.block (hs.get (b:=b) (by repeat (first | exact At.head | (with_reducible apply At.tail)))) hnb
 have aB4:=(aBi.trans aAq).step aAB (fun k hk => .inr (by obtain rfl:=List.mem_singleton.1 hk;exact g2))
 clear hs
 have hs:=(St.nil w4).AE ED
 refine Ja ?_
 have yJ:=hs.AB [] (by simp [ED]) (by simp [D0])
 refine cl (h:=by exact Ub tb rb (MW 3) 2 _ (Fh.only yJ) (by decide)) (k:=?_)
 rw [e7]
 rintro v w5 ⟨rfl,S3,zY⟩
 have Gx:=zY.block (hs.get (b:=b) (by repeat (first | exact At.head | (with_reducible apply At.tail)))) hnb
 have aCM:=(aB4.trans yJ).step zY (fun k hk => .inr (by obtain rfl:=List.mem_singleton.1 hk;exact g2))
 clear hs
 have hs:=(St.nil w5).AE Gx
 refine Ja ?_
 have aA6:=hs.AB [] (by simp [Gx]) (by simp [D0])
 refine cl (h:=by exact Lr tb rb (MW 4) I0 _ (S3.only aA6)) (k:=?_)
 rw [e8,e9]
 rintro v w6 ⟨rfl,QK,yP⟩
 have hb4:=yP.block (hs.get (b:=b) (by repeat (first | exact At.head | (with_reducible apply At.tail)))) hnb
 have aAW:=(aCM.trans aA6).step yP (fun k hk => .inr (by obtain rfl:=List.mem_singleton.1 hk;exact g2))
 clear hs
 have hs:=(St.nil w6).AE hb4
 refine Ja ?_
 have Ue:=hs.AB [] (by simp [hb4]) (by simp [D0])
 refine AY hs (h:=by exact ZD _ (tab_only ht (aAW.trans Ue))) (k:=?_);intro w' ho hs;refine Jc ?_
 refine AG ?_
 exact ⟨rfl,aAW.trans (hs.AB [] (by simp [hb4]) (by simp [D0]))⟩
end Go.Proofs.Q0
namespace Go.Proofs.Q0
open Go Go.RowKit
section
variable {ops : Array Oper} {QE : Exit → Env → World → Prop} {n : Nat} {rest : List Oper} {env : Env} {w : World} {d : Option Nat} {ty : Nat} {pos : String} {Ap : Array Edge} {g : Option (Nat × Bool)}
theorem aAv {t t':Nat} {x y:Operand} {a b:Int} (h0:0≤a) (h2:0 < b) (hw:BD ops env g=true:=by exact rfl) (hx:ev env x = .int .u8 a:=by exact rfl) (hy:ev env y = .int .u8 b:=by exact rfl)
 (k:XS Tryz.prog ops QE n rest (CD env d (.int .u8 (a % b))) w):XS Tryz.prog ops QE n (⟨d,.binOp .rem t x y t',ty,pos,Ap,g⟩ :: rest) env w :=
 xs_val hw (by rw [cF om hx hy,Int.tmod_eq_emod_of_nonneg h0]) k
theorem aCX {t t' e:Nat} {x y:Operand} {a:Option Addr} {m c:Nat} (ht:Tryz.prog.underlying t=some (.slice e)) (hw:BD ops env g=true:=by exact rfl) (hx:ev env x = .slice a m c:=by exact rfl) (hy:ev env y = .slice none 0 0:=by exact rfl)
 (k:XS Tryz.prog ops QE n rest (CD env d (.bool a.isNone)) w):XS Tryz.prog ops QE n (⟨d,.binOp .eql t x y t',ty,pos,Ap,g⟩ :: rest) env w :=
 xs_val hw (LS (by rw [hx,hy];simp [eqGuard]) (by
  rw [hx,hy]
  have h:∀ d:Nat,(Op.equalIn (d+1) t (.slice a m c) (.slice none 0 0)).run Tryz.prog w = .ok a.isNone w:=fun d=>by cases a <;> simp [Op.equalIn,run_underlying ht]
  simp only [binOp]
  simp [Op.equal,Op.maxDepth,h 9999])) k
end
end Go.Proofs.Q0
namespace Go.Proofs.Q0
open Go Go.RowKit
attribute [local irreducible] XS XC XA AZ AP Aa A1 A0 A8 Ad AW SE
section
variable {ops : Array Oper} {QE : Exit → Env → World → Prop} {n : Nat} {rest : List Oper} {env : Env} {w : World}
 {d:Option Nat} {ty:Nat} {pos:String} {Ap:Array Edge} {g:Option (Nat × Bool)}
theorem fI {t e size bytes:Nat} {x y:Operand} {v u:Value} {k:Nat} {xs ys:List Value} {G Gy:List Nat} (hO:B7 w e size v k xs G) (hY:B7 w e size u 0 ys Gy) (hw:BD ops env g=true:=by exact rfl) (DR:look t Hu.sls=some (e,size,bytes):=by exact rfl)
 (hx:ev env x=v:=by exact rfl) (hy:ev env y=u:=by exact rfl) (kk:XS Tryz.prog ops QE n rest (CD env d v) w) :
 XS Tryz.prog ops QE n (⟨d,.call { callee := .builtin .append,args:=#[x,y],argTypes:=#[t,t] },ty,pos,Ap,g⟩ :: rest) env w:=by
 obtain ⟨hu,i,hi,hs1,hs2⟩:=H9 (AJ.sl DR)
 have hr:=WK (ty:=ty) hu hi hO hY
 refine XS.value hw (v:=v) (w':=w) ?_ kk
 simp [execOp,resolve,Sem.run_bind,invoke,builtin,hx,hy,hr]
end
theorem Ni (l:List Tk):(CX l).length=l.length*6:=by
 induction l with
 | nil=>rfl
 | cons x l ih=>rw [I3,List.length_append,ih,List.length_cons];simp;omega
theorem aS (l:List Tk):∀ u∈CX l,u.oneCell'=true:=fun u hu=>by
 unfold CX at hu
 obtain ⟨c,hc,hu⟩:=List.mem_flatten.1 hu
 obtain ⟨x,_,rfl⟩:=List.mem_map.1 hc
 simp only [List.mem_cons,List.not_mem_nil,or_false] at hu
 rcases hu with rfl | rfl | rfl | rfl | rfl | rfl <;> rfl
theorem Qz (rb cap:Nat) (l:List Tk) (rest:List Value) (w0:World) (hm:l.length≤32) (hc:l.length≤cap) (hl:rest.length+l.length*6=cap*6) (h:w0.heap[rb]?=some (MV l rest)) :
 AO Tryz.prog 79 #[.slice (some ⟨rb,0,none⟩) l.length cap] w0 fun v w'=>(∃ rb' cap' rest',v = .slice (some ⟨rb',0,none⟩) l.length cap'∧w'.heap[rb']?=some (MV l rest')∧l.length≤cap'∧rest'.length+l.length*6=cap'*6∧w0.heap.size≤rb')∧AA [] w0 w':=by
 have hs:=St.nil w0
 refine AR Tryz.func79 Tryz.ntmps79 (k:=?_)
 refine Ja ?_
 refine aCX (e:=51) (by kernel_rfl) (k:=?_)
 repeat' (first|refine Ao ?_|refine Nx.h ?_|refine FD ?_|fail)
 refine NS AJ rfl rfl hs (fun v w1 hO hne=>?_)
 rcases hO with ⟨rfl,_⟩ | ⟨g,cp,cur,rfl,iQ,UQ,_,_,hs1⟩
 ·exact absurd rfl hne
 have hg:=hs1.get At.head
 have gg:=hs1.new _ List.mem_cons_self rfl
 simp only at gg
 have AK:=hs1.AD rfl
 have hO:B7 w1 51 6 (.slice (some ⟨g,0,none⟩) 0 cp) 0 [] [g] := .inr ⟨g,cp,cur,rfl,rfl,iQ,UQ,rfl,rfl,hg⟩
 have hY:B7 w1 51 6 (.slice (some ⟨rb,0,none⟩) l.length cap) l.length (CX l) [rb] := .inr ⟨rb,cap,CX l ++ rest,rfl,rfl,hc,by rw [List.length_append,Ni];omega,Ni l,by rw [← Ni];exact List.take_left,AK.block h (by simp)⟩
 clear hs
 have hs:=St.nil w1
 refine vs (k:=?_)
 by_cases h0:l.length=0
 ·obtain rfl:=List.length_eq_zero_iff.1 h0
  refine fI hO hY (kk:=?_)
  refine Jc ?_
  refine AG ?_
  have AM:=hs.AD rfl
  exact ⟨⟨g,cp,cur,rfl,AM.block hg (by simp),Nat.zero_le _,by simpa using UQ,gg⟩,AK.trans AM⟩
 ·refine Sn AJ rfl rfl rfl rfl rfl rfl (aS l) hO hY om om ?_
  rintro v2 w2 ⟨G',IK,Dc⟩ AM
  rw [Nat.zero_add,List.nil_append] at IK
  rcases IK with ⟨_,h1,_⟩ | ⟨g2,zU,aBs,rfl,rfl,k1,k2,k3,k4,k5⟩
  ·exact absurd h1 h0
  clear hs
  have hs:=St.nil w2
  refine Jc ?_
  refine AG ?_
  have AT:=hs.AD rfl
  have ho:=(AK.step AM (fun k hk => .inr (by obtain rfl:=List.mem_singleton.1 hk;exact gg))).trans AT
  refine ⟨⟨g2,zU,aBs.drop (l.length*6),rfl,?_,k1,by rw [List.length_drop];omega,?_⟩,ho⟩
  ·rw [AT.block k5 (by simp)]
   unfold MV
   rw [← k4,List.take_append_drop]
  ·have hz:=AK.size
   rcases Dc g2 (by simp) with h | h
   ·obtain rfl:=List.mem_singleton.1 h;exact gg
   ·omega
theorem cE (tb rb:Nat) (l:List Tk) (w0:World) (h:De w0 tb rb l):AO Tryz.prog 39 #[.pointer (some ⟨tb,0,none⟩)] w0 fun v w'=>(∃ Em rb',v = .pointer (some ⟨Em,0,none⟩)∧De w' Em rb' l∧w0.heap.size≤Em∧w0.heap.size≤rb'∧Em≠rb')∧AA [] w0 w':=by
 obtain ⟨cap,rest,h1,h2,h3,h4,h5⟩:=h
 have hs:=(St.nil w0).AE h1
 refine AR Tryz.func39 Tryz.ntmps39 (k:=?_)
 refine Jd ?_
 have BP:=hs.AB [] (by simp [h1]) (by simp [D0])
 refine cl (h:=by exact Qz rb cap l rest _ h3 h4 h5 (BP.block h2 (by simp))) (k:=?_)
 rintro v w1 ⟨⟨rb',cap',rest',rfl,k1,k2,k3,k4⟩,AK⟩
 have lr:=lt_of_block k1
 have hz:=BP.size
 clear hs
 have hs:=(St.nil w1)
 refine vs (k:=?_)
 refine bx hs (k:=?_);intro Em w2 MF hs
 have g2:=hs.new _ List.mem_cons_self rfl
 simp only at g2
 have Jq:=AK.size
 refine Jc ?_
 refine AG ?_
 have AM:=hs.AD rfl
 exact ⟨⟨Em,rb',rfl,⟨cap',rest',hs.get At.head,AM.block k1 (by simp),h3,k2,k3⟩,by omega,by omega,by omega⟩,(BP.trans AK).trans AM⟩
end Go.Proofs.Q0
namespace Go.Proofs.Q0
open Go Go.RowKit
theorem tick_bounds {s:Ss} {c:Cs} (h:BR s c.A) (ns:Int):(AX c ns).2.2.p.length < 2000000000000∧(AX c ns).2.2.g.length≤32:=by
 unfold AX
 split
 ·rename_i hc
  have h1:=SO (ns.toNat+1) ns c .none om hc.2
  have h2:=(tick_gone (ns.toNat+1) ns c .none ⟨s,h⟩).1
  have h3:=h.le
  have e1:Rp.none.p.length=0:=rfl
  have e2:Rp.none.g.length=0:=rfl
  rw [e1] at h1
  rw [e2] at h2
  constructor <;> omega
 ·exact ⟨(by show (0:Nat) < 2000000000000;omega),(by show (0:Nat)≤32;omega)⟩
theorem Br.bW {w:World} {cb:Nat} {c:Cs} {F:List Nat} (h:Br w cb c F):∃ s,BR s c.A:=by
 obtain ⟨sb,Fs,_,_,hS,_⟩:=h
 exact hS.rep
theorem jZ (cb:Nat) (c:Cs) (F:List Nat) (ns:Int) (w0:World) (h:Br w0 cb c F) (Du:BL ns) :
 AO Tryz.prog 59 #[.pointer (some ⟨cb,0,none⟩),.int .u64 ns] w0 fun v w'=>∃ rv,v = .tuple #[rv,.int .i64 (AX c ns).1]∧HY w0 cb F rv (AX c ns).1 c (AX c ns).2.1 (AX c ns).2.2 w':=by
 obtain ⟨s,hs⟩:=h.bW
 obtain ⟨h1,h2⟩:=tick_bounds hs ns
 exact Xm cb c F ns w0 h Du h1 om
theorem DB.mem {w:World} {sb:Nat} {A:As} {F:List Nat} (h:DB w sb A F):sb∈F:=by
 obtain ⟨s,⟨qb,mb,Fq,rfl,_⟩,_⟩:=h
 simp
end Go.Proofs.Q0
namespace Go.Proofs.Q0
open Go Go.RowKit
attribute [local irreducible] XS XC XA AZ AP Aa A1 A0 A8 Ad AW SE
theorem qX (cb:Nat) (c:Cs) (F:List Nat) (w0:World) (h:Br w0 cb c F):AO Tryz.prog 18 #[.pointer (some ⟨cb,0,none⟩)] w0 fun v w'=>v = .int .i64 c.run∧AA [] w0 w':=by
 obtain ⟨sb,Fs,rfl,h1,hS,h3,h4⟩:=h
 have hs:=(St.nil w0).AE h1
 refine AR Tryz.func18 Tryz.ntmps18 (k:=?_)
 refine Jd ?_
 refine AG ?_
 exact ⟨rfl,hs.AB [] (by simp [h1]) (by simp [D0])⟩
theorem Br.mem {w:World} {cb:Nat} {c:Cs} {F:List Nat} (h:Br w cb c F):cb∈F:=by obtain ⟨_,_,rfl,_⟩:=h;simp
theorem Br.FB {w:World} {cb:Nat} {c:Cs} {F:List Nat} (h:Br w cb c F):∃ sb qb mb Fs,F=cb :: Fs∧w.heap[cb]?=some (FV sb c.run c.carr)∧w.heap[sb]?=some (Vp qb mb)∧DB w sb c.A Fs∧Ko w qb c.A∧sb∈Fs:=by
 obtain ⟨sb,Fs,rfl,h1,hS,h3,h4⟩:=h
 obtain ⟨qb,mb,g1,gQ⟩:=hS.FB
 exact ⟨sb,qb,mb,Fs,rfl,h1,g1,hS,gQ,hS.mem⟩
end Go.Proofs.Q0
namespace Go.Proofs.Q0
open Go Go.RowKit
structure Ce where
 cb:Nat
 c:Cs
 F:List Nat
def ptrs (L:List Ce):List Value:=L.map fun x => .pointer (some ⟨x.cb,0,none⟩)
def E6 (L:List Ce):List Nat:=(L.map Ce.F).flatten
theorem EE {L:List Ce} {k:Nat}:k∈E6 L↔∃ x∈L,k∈x.F:=by
 unfold E6
 simp only [List.mem_flatten,List.mem_map]
 constructor
 ·rintro ⟨_,⟨x,hx,rfl⟩,hk⟩;exact ⟨x,hx,hk⟩
 ·rintro ⟨x,hx,hk⟩;exact ⟨_,⟨x,hx,rfl⟩,hk⟩
abbrev T2:Nat:=55
structure C0 (w:World) (v:Value) (l:List Cs) (L:List Ce) (G:List Nat):Prop where
 a:B7 w T2 1 v L.length (ptrs L) G
 l:L.map Ce.c=l
 c:∀ x∈L,Br w x.cb x.c x.F
 d:∀ (i j:Nat) x y,L[i]?=some x→L[j]?=some y→i≠j→∀ k∈x.F,k∉y.F
theorem C0.Ah {w w':World} {v:Value} {l:List Cs} {L:List Ce} {G F:List Nat} (h:C0 w v l L G) (ho:AA F w w') (hd:∀ k∈G ++ E6 L,k∉F):C0 w' v l L G :=
 ⟨h.a.keep ho fun k hk=>hd k (List.mem_append_left _ hk),h.l,fun x hx=>(h.c x hx).Ah ho fun k hk=>hd k (List.mem_append_right _ (EE.2 ⟨x,hx,hk⟩)),h.d⟩
abbrev T4 (tb:Nat) (c:Cf) (v:Value):Obj := .cells #[.pointer (some ⟨tb,0,none⟩),.int .i64 c.cores,.int .i64 c.tasks,.int .u64 c.tick,.int .u64 c.slice,.int .u64 c.origin,v] 48 (0,0)
structure GJ (w:World) (sb tb rb:Nat) (v:Value) (s:Sy) (L:List Ce) (G:List Nat):Prop where
 o:w.heap[sb]?=some (T4 tb s.cf v)
 t:De w tb rb s.t
 c:C0 w v s.k L G
 ok:Eh s
def Cj (w:World) (sb:Nat) (s:Sy) (F:List Nat):Prop:=∃ tb rb v L G,F=sb :: tb :: rb :: (G ++ E6 L)∧GJ w sb tb rb v s L G
def okY:Obj→Bool
 | .cells cs ty f=>sF (.cells cs ty f) && !(Nat.beq ty 48) && !(Nat.beq ty 97) && !(Nat.beq ty 51) && !(Nat.beq ty T2)
 | _=>false
theorem nbeq {a b:Nat} (h:(!(Nat.beq a b))=true):a≠b:=fun e=>by subst e;simp at h
theorem De.aAg {w:World} {tb rb:Nat} {l:List Tk} (h:De w tb rb l) {b:Nat} {cs:Array Value} {ty:Nat} {fz:Nat × Nat} (hb:w.heap[b]?=some (.cells cs ty fz)) (h1:ty≠97) (h2:ty≠51):b≠tb∧b≠rb:=by
 obtain ⟨cap,rest,a1,a2,_⟩:=h
 exact ⟨A3 hb a1 h1,A3 hb a2 h2⟩
theorem Cj.not {w:World} {sb:Nat} {s:Sy} {F:List Nat} (h:Cj w sb s F) {b:Nat} {cs:Array Value} {ty:Nat} {fz:Nat × Nat} (hb:w.heap[b]?=some (.cells cs ty fz)) (ho:okY (.cells cs ty fz)=true):b∉F:=fun hm=>by
 obtain ⟨tb,rb,v,L,G,rfl,h⟩:=h
 simp only [okY,Bool.and_eq_true] at ho
 obtain ⟨⟨⟨⟨o1,o2⟩,o3⟩,o4⟩,o5⟩:=ho
 have n2:=nbeq o2
 have n3:=nbeq o3
 have n4:=nbeq o4
 have n5:=nbeq o5
 obtain ⟨n6,n7⟩:=h.t.aAg hb n3 n4
 rcases List.mem_cons.1 hm with rfl | hm
 ·exact A3 hb h.o n2 rfl
 rcases List.mem_cons.1 hm with rfl | hm
 ·exact n6 rfl
 rcases List.mem_cons.1 hm with rfl | hm
 ·exact n7 rfl
 rcases List.mem_append.1 hm with hm | hm
 ·exact BX h.c.a hb n5 hm
 ·obtain ⟨x,hx,hk⟩:=EE.1 hm
  exact (h.c.c x hx).not hb o1 hk
theorem Cj.Ah {w w':World} {sb:Nat} {s:Sy} {F G:List Nat} (h:Cj w sb s F) (ho:AA G w w') (hd:∀ k∈F,k∉G):Cj w' sb s F:=by
 obtain ⟨tb,rb,v,L,G',rfl,h⟩:=h
 exact ⟨tb,rb,v,L,G',rfl,ho.block h.o (hd _ (by simp)),h.t.keep ho (hd _ (by simp)) (hd _ (by simp)),h.c.Ah ho (fun k hk=>hd k (by simp only [List.mem_cons];exact .inr (.inr (.inr hk)))),h.ok⟩
theorem Cj.only {w w':World} {sb:Nat} {s:Sy} {F:List Nat} (h:Cj w sb s F) (ho:AA [] w w'):Cj w' sb s F:=h.Ah ho (by simp)
theorem De.Rr {w:World} {tb rb:Nat} {l:List Tk} (h:De w tb rb l):tb < w.heap.size∧rb < w.heap.size:=by
 obtain ⟨cap,rest,a1,a2,_⟩:=h
 exact ⟨lt_of_block a1,lt_of_block a2⟩
theorem Cj.lt {w:World} {sb:Nat} {s:Sy} {F:List Nat} (h:Cj w sb s F):∀ k∈F,k < w.heap.size:=fun k hm=>by
 obtain ⟨tb,rb,v,L,G,rfl,h⟩:=h
 rcases List.mem_cons.1 hm with rfl | hm
 ·exact lt_of_block h.o
 rcases List.mem_cons.1 hm with rfl | hm
 ·exact h.t.Rr.1
 rcases List.mem_cons.1 hm with rfl | hm
 ·exact h.t.Rr.2
 rcases List.mem_append.1 hm with hm | hm
 ·exact h.c.a.lt k hm
 ·obtain ⟨x,hx,hk⟩:=EE.1 hm
  exact (h.c.c x hx).lt k hk
theorem Cj.mem {w:World} {sb:Nat} {s:Sy} {F:List Nat} (h:Cj w sb s F):sb∈F:=by obtain ⟨tb,rb,v,L,G,rfl,h⟩:=h;simp
theorem pE (L:List Ce) (i:Nat) {x y:Ce} (hx:L[i]?=some x) (e:y.cb=x.cb):ptrs (L.set i y)=ptrs L:=by
 unfold ptrs
 rw [List.map_set,e]
 apply List.ext_getElem?
 intro j
 rw [List.getElem?_set]
 split
 ·rename_i h
  subst h
  rw [List.getElem?_map,hx,List.length_map]
  split
  ·rfl
  ·rename_i h;rw [List.getElem?_eq_none om] at hx;cases hx
 ·rfl
theorem C0.put {w w':World} {v:Value} {l:List Cs} {L:List Ce} {G:List Nat} (h:C0 w v l L G) {i:Nat} {x:Ce} (hx:L[i]?=some x) {c':Cs} {F':List Nat} (hc:Br w' x.cb c' F') (hF:∀ k∈F',k∈x.F∨w.heap.size≤k) (ho:AA [x.cb] w w') :
 C0 w' v (l.set i c') (L.set i ⟨x.cb,c',F'⟩) G∧∀ k∈G ++ E6 (L.set i ⟨x.cb,c',F'⟩),k∈G ++ E6 L∨w.heap.size≤k:=by
 have hxm:=List.mem_of_getElem? hx
 have hC:=h.c x hxm
 obtain ⟨_,_,_,_,_,hcb,_⟩:=hC.FB
 have hmem:∀ y∈L.set i ⟨x.cb,c',F'⟩,y=⟨x.cb,c',F'⟩∨∃ j:Nat,j≠i∧L[j]?=some y:=fun y hy=>by
  obtain ⟨j,hj⟩:=List.getElem?_of_mem hy
  rw [List.getElem?_set] at hj
  split at hj
  ·split at hj
   ·exact .inl (Option.some.inj hj).symm
   ·cases hj
  ·rename_i hne;exact .inr ⟨j,fun e=>hne e.symm,hj⟩
 have key:∀ (j:Nat) (y:Ce),j≠i→L[j]?=some y→∀ k∈F',k∉y.F:=fun j y hne hy k hk hm=>by
  rcases hF k hk with q | q
  ·exact h.d i j x y hx hy (Ne.symm hne) k q hm
  ·have:=(h.c y (List.mem_of_getElem? hy)).lt k hm;omega
 refine ⟨⟨?_,?_,?_,?_⟩,?_⟩
 ·rw [List.length_set,pE L i (y:=⟨x.cb,c',F'⟩) hx rfl]
  exact h.a.keep ho fun k hk hm=>by obtain rfl:=List.mem_singleton.1 hm;exact BX h.a hcb (by decide) hk
 ·rw [List.map_set,h.l]
 ·intro y hy
  rcases hmem y hy with rfl | ⟨j,hj,hy⟩
  ·exact hc
  ·exact (h.c y (List.mem_of_getElem? hy)).Ah ho fun k hk hm=>by
    obtain rfl:=List.mem_singleton.1 hm
    exact h.d j i y x hy hx hj _ hk hC.mem
 ·intro a b y z hy hz hne k hk
  rw [List.getElem?_set] at hy hz
  split at hy
  ·rename_i ea
   split at hy
   ·cases hy
    rw [if_neg (fun e=>hne (ea.symm.trans e))] at hz
    exact key b z (fun e=>hne (ea.symm.trans e.symm)) hz k hk
   ·cases hy
  ·rename_i ea
   split at hz
   ·rename_i eb
    split at hz
    ·cases hz
     exact fun hm=>key a y (fun e=>ea e.symm) hy k hm hk
    ·cases hz
   ·exact h.d a b y z hy hz hne k hk
 ·intro k hk
  rcases List.mem_append.1 hk with hk | hk
  ·exact .inl (List.mem_append_left _ hk)
  ·obtain ⟨y,hy,hky⟩:=EE.1 hk
   rcases hmem y hy with rfl | ⟨j,_,hy⟩
   ·rcases hF k hky with q | q
    ·exact .inl (List.mem_append_right _ (EE.2 ⟨x,hxm,q⟩))
    ·exact .inr q
   ·exact .inl (List.mem_append_right _ (EE.2 ⟨y,List.mem_of_getElem? hy,hky⟩))
theorem C0.len {w:World} {v:Value} {l:List Cs} {L:List Ce} {G:List Nat} (h:C0 w v l L G):L.length=l.length:=by rw [← h.l,List.length_map]
theorem C0.at {w:World} {v:Value} {l:List Cs} {L:List Ce} {G:List Nat} (h:C0 w v l L G) {i:Nat} (hi:i < l.length):∃ x,L[i]?=some x∧Br w x.cb x.c x.F∧x.c=l.getD i (Dw 0):=by
 have hl:=h.len
 have hi':i < L.length:=by omega
 have hl2:=h.l
 refine ⟨L[i],List.getElem?_eq_getElem hi',h.c _ (List.getElem_mem hi'),?_⟩
 subst hl2
 rw [List.getD_eq_getElem?_getD,List.getElem?_map,List.getElem?_eq_getElem hi'];rfl
theorem C0.ptr {w:World} {v:Value} {l:List Cs} {L:List Ce} {G:List Nat} (h:C0 w v l L G) {i:Nat} {x:Ce} (hx:L[i]?=some x):∃ g cap cur,v = .slice (some ⟨g,0,none⟩) L.length cap∧w.heap[g]?=some (.cells (cur:List Value).toArray T2 (0,0))∧cur[i]?=some (.pointer (some ⟨x.cb,0,none⟩)):=by
 rcases h.a with ⟨_,h0,_⟩ | ⟨g,cap,cur,e,_,_,_,_,ht,hg⟩
 ·rw [List.eq_nil_of_length_eq_zero h0] at hx;cases hx
 ·refine ⟨g,cap,cur,e,hg,?_⟩
  have h1:(ptrs L)[i]?=some (.pointer (some ⟨x.cb,0,none⟩)):=by unfold ptrs;rw [List.getElem?_map,hx];rfl
  rw [← ht,List.getElem?_take] at h1
  split at h1
  ·exact h1
  ·cases h1
theorem Cj.put {w w':World} {sb tb rb:Nat} {v:Value} {s:Sy} {L:List Ce} {G:List Nat} (h:GJ w sb tb rb v s L G) {k:Int} {x:Ce} (hx:L[k.toNat]?=some x) {c':Cs} {F':List Nat} (hc:Br w' x.cb c' F') (hF:∀ k∈F',k∈x.F∨w.heap.size≤k) (ho:AA [x.cb] w w') :
 ∃ L',GJ w' sb tb rb v (BF s k c') L' G∧(∀ q∈sb :: tb :: rb :: (G ++ E6 L'),q∈sb :: tb :: rb :: (G ++ E6 L)∨w.heap.size≤q):=by
 obtain ⟨h1,h2⟩:=h.c.put hx hc hF ho
 obtain ⟨_,_,_,_,_,hcb,_⟩:=(h.c.c x (List.mem_of_getElem? hx)).FB
 have n1:x.cb≠sb:=A3 hcb h.o (by decide)
 obtain ⟨n2,n3⟩:=h.t.aAg hcb (by decide) (by decide)
 refine ⟨_,⟨ho.block h.o (by simpa using Ne.symm n1),h.t.keep ho (by simpa using Ne.symm n2) (by simpa using Ne.symm n3),h1,h.ok.To k c'⟩,fun q hq=>?_⟩
 rcases List.mem_cons.1 hq with rfl | hq
 ·exact .inl (by simp)
 rcases List.mem_cons.1 hq with rfl | hq
 ·exact .inl (by simp)
 rcases List.mem_cons.1 hq with rfl | hq
 ·exact .inl (by simp)
 rcases h2 q hq with k | k
 ·exact .inl (by simp only [List.mem_cons];exact .inr (.inr (.inr k)))
 ·exact .inr k
theorem GJ.rows {w w':World} {sb tb rb:Nat} {v:Value} {s:Sy} {L:List Ce} {G:List Nat} (h:GJ w sb tb rb v s L G) {t:List Tk} (ht:De w' tb rb t) (ho:AA [rb] w w') (hok:Eh { s with t:=t }):GJ w' sb tb rb v { s with t:=t } L G:=by
 obtain ⟨cap,rest,a1,a2,_⟩:=h.t
 have n1:rb≠sb:=A3 a2 h.o (by decide)
 refine ⟨ho.block h.o (by simpa using Ne.symm n1),ht,h.c.Ah ho fun k hk hm=>?_,hok⟩
 obtain rfl:=List.mem_singleton.1 hm
 rcases List.mem_append.1 hk with hk | hk
 ·exact BX h.c.a a2 (by decide) hk
 ·obtain ⟨x,hx,hkx⟩:=EE.1 hk
  exact (h.c.c x hx).not a2 rfl hkx
abbrev iP (sb:Nat) (ve:Value):Obj := .cells #[.pointer (some ⟨sb,0,none⟩),ve] 123 (0,0)
abbrev ZL (w:World) (v:Value) (l:List Ev) (G:List Nat):Prop:=B7 w 41 5 v l.length (NA l) G
def Dv (w:World) (hb:Nat) (s:Ch) (F:List Nat):Prop:=∃ sb Fs ve Ge,F=hb :: (Fs ++ Ge)∧w.heap[hb]?=some (iP sb ve)∧Cj w sb s.s Fs∧ZL w ve s.ev Ge
def r9:Obj→Bool
 | .cells cs ty f=>okY (.cells cs ty f) && !(Nat.beq ty 123) && !(Nat.beq ty 41)
 | _=>false
theorem Dv.not {w:World} {hb:Nat} {s:Ch} {F:List Nat} (h:Dv w hb s F) {b:Nat} {cs:Array Value} {ty:Nat} {fz:Nat × Nat} (h1:w.heap[b]?=some (.cells cs ty fz)) (ho:r9 (.cells cs ty fz)=true):b∉F:=fun hm=>by
 obtain ⟨sb,Fs,ve,Ge,rfl,k1,k2,k3⟩:=h
 simp only [r9,Bool.and_eq_true] at ho
 rcases List.mem_cons.1 hm with rfl | hm
 ·exact A3 h1 k1 (nbeq ho.1.2) rfl
 rcases List.mem_append.1 hm with hm | hm
 ·exact k2.not h1 ho.1.1 hm
 ·exact BX k3 h1 (nbeq ho.2) hm
theorem Dv.Ah {w w':World} {hb:Nat} {s:Ch} {F G:List Nat} (h:Dv w hb s F) (ho:AA G w w') (hd:∀ k∈F,k∉G):Dv w' hb s F:=by
 obtain ⟨sb,Fs,ve,Ge,rfl,k1,k2,k3⟩:=h
 exact ⟨sb,Fs,ve,Ge,rfl,ho.block k1 (hd _ (by simp)),k2.Ah ho fun k hk=>hd k (by simp [hk]),k3.keep ho fun k hk=>hd k (by simp [hk])⟩
theorem Dv.only {w w':World} {hb:Nat} {s:Ch} {F:List Nat} (h:Dv w hb s F) (ho:AA [] w w'):Dv w' hb s F:=h.Ah ho (by simp)
theorem Dv.lt {w:World} {hb:Nat} {s:Ch} {F:List Nat} (h:Dv w hb s F):∀ k∈F,k < w.heap.size:=fun k hm=>by
 obtain ⟨sb,Fs,ve,Ge,rfl,k1,k2,k3⟩:=h
 rcases List.mem_cons.1 hm with rfl | hm
 ·exact lt_of_block k1
 rcases List.mem_append.1 hm with hm | hm
 ·exact k2.lt k hm
 ·exact k3.lt k hm
def tD (w0:World) (hb:Nat) (s:Ch) (F:List Nat) (w':World):Prop:=∃ F',Dv w' hb s F'∧(∀ k∈F',k∈F∨w0.heap.size≤k)∧AA F w0 w'
def Cv (r:Rp):Prop:=∀ g∈r.g,A7 g.lag∧In64 g.id
theorem Cv.none:Cv .none:=fun g hg=>by cases hg
theorem Ww {c:Cs} (h:CI c):∀ g∈Cd c,A7 g.lag∧In64 g.id:=fun g hg=>by
 obtain ⟨s,hs⟩:=h
 obtain ⟨_,_,h3,_⟩:=hs.Mu.gone g hg
 obtain ⟨a,_,ha⟩:=List.mem_map.1 h3
 exact ⟨Tc hs g hg,by rw [← ha];exact a.2.1.2.1⟩
theorem VO {c:Cs} (h:CI c):(Cd c).length≤32:=by
 obtain ⟨s,hs⟩:=h
 have h1:(Cd c).length≤c.A.l.length:=N4 _ _
 have:=hs.le
 omega
theorem Cv.try {e:Int} {c1:Cs} {r1:Rp} (h:Cv r1) (hc:CI c1):Cv (BH e c1 r1):=by
 unfold BH
 split
 ·intro g hg
  rcases List.mem_append.1 hg with k | k
  ·exact h g k
  ·exact Ww hc g k
 ·exact Cv.none
theorem Hg {e:Int} {c1:Cs} {r1:Rp} (hc:CI c1):(BH e c1 r1).g.length≤r1.g.length+32∧(BH e c1 r1).p.length≤r1.p.length:=by
 unfold BH
 split
 ·have:=VO hc
  exact ⟨by rw [List.length_append];omega,Nat.le_refl _⟩
 ·exact ⟨Nat.zero_le _,Nat.zero_le _⟩
theorem Rf {c:Cs} (h:CI c) (m:Int):CI (D2 c m):=by obtain ⟨s,hs⟩:=h;exact Pz hs m
theorem OS:∀ (k:Nat) (left:Int) (c:Cs) (r:Rp),CI c→Cv r→Cv (Cy k left c r).2.2
 | 0,_,_,_,_,h=>h
 | k+1,left,c,r,hc,h=>by
   unfold Cy
   split
   ·split
    ·refine OS k _ _ _ (L7 (Rf hc left)) fun g hg=>?_
     rcases List.mem_append.1 hg with q | q
     ·exact h g q
     ·exact Ww (Rf hc left) g q
    ·exact h
   ·exact h
theorem YN {c:Cs} (h:CI c) (ns:Int):Cv (AX c ns).2.2:=by
 unfold AX
 split
 ·exact OS _ _ _ _ h Cv.none
 ·exact Cv.none
theorem ok_leave {s:Ch} (h:Eh s.s) (x:Tk):Eh (BO s x).2.s∧(BO s x).2.s.cf=s.s.cf:=by
 obtain ⟨h1,h2,_⟩:=ok_absorb (s:=⟨BF s.s x.core (Bh (AF s.s x.core) (Ab (AF s.s x.core) x.id).1 (Ab (AF s.s x.core) x.id).2),s.ev⟩) (h.To x.core _) x.core (BH (Ab (AF s.s x.core) x.id).1 (Ab (AF s.s x.core) x.id).2 .none)
 exact ⟨h1,h2⟩
theorem CV.st {n:Int} {x:Tk} (h:CV n x) (hx:x.st≠0) {z:Int} (hz:0≤z∧z < 256):CV n { x with st:=z }:=⟨h.1,hz,h.2.2.1,h.2.2.2.1,h.2.2.2.2.1,h.2.2.2.2.2.1,fun _=>h.2.2.2.2.2.2 hx⟩
theorem CV.core {n:Int} {x:Tk} (h:CV n x) (hx:x.st≠0):0≤x.core∧x.core < n:=h.2.2.2.2.2.2 hx
def IP (s:Sy):Prop:=∀ c∈s.k,CI c
theorem IP.at {s:Sy} (h:IP s) (k:Int):CI (AF s k):=by
 unfold AF
 rw [List.getD_eq_getElem?_getD]
 cases e:s.k[k.toNat]? with
 | none=>exact ⟨_,BR.new 0⟩
 | some c=>exact h c (List.mem_of_getElem? e)
end Go.Proofs.Q0
namespace Go.Proofs.Q0
open Go Go.RowKit
attribute [local irreducible] XS XC XA AZ AP Aa A1 A0 A8 Ad AW SE
theorem HY.form {w1 w2:World} {cb:Nat} {F:List Nat} {rv:Value} {e:Int} {c c1:Cs} {r1:Rp} (T:HY w1 cb F rv e c c1 r1 w2):∃ ag cg ap cp,rv = .agg #[.slice ag (BH e c1 r1).g.length cg,.slice ap (BH e c1 r1).p.length cp]:=by
 obtain ⟨⟨vg,vp,Gg,Gp,rfl,p1,p2⟩,_,_⟩:=T
 obtain ⟨ag,cg,rfl⟩:=BZ p1
 obtain ⟨ap,cp,rfl⟩:=BZ p2
 exact ⟨ag,cg,ap,cp,rfl⟩
theorem Hp (x:Tk) (w0:World):AO Tryz.prog 47 #[Jr x] w0 fun v w'=>v = .bool (BK x)∧AA [] w0 w':=by
 have hs:=St.nil w0
 refine AR Tryz.func47 Tryz.ntmps47 (k:=?_)
 repeat' (first|refine Sf ?_|(refine bx hs (k:=?_);intro b w hz hs)|((with_reducible apply B6);exact rfl;exact rfl;intro c hc;(fail_if_success have:true=c:=hc);(fail_if_success have:false=c:=hc);cases c)|fail)
 all_goals (refine AG ?_)
 all_goals refine ⟨?_,hs.AD rfl⟩
 all_goals clear hs
 all_goals first
  | (have h1:(x.st == 1)=false:=hc;unfold BK;rw [h1];rfl)
  | (have h1:(x.st == 1)=true:=hc;unfold BK;rw [h1];rfl)
theorem pT (sb:Nat) (s:Sy) (F:List Nat) (id:Int) (w0:World) (h:Cj w0 sb s F) (hid:In64 id):AO Tryz.prog 46 #[.pointer (some ⟨sb,0,none⟩),.int .i64 id] w0 fun v w'=>v = .tuple #[Jr (AV s.t id),.int .i64 (DG (BI s.t id))]∧AA [] w0 w':=by
 obtain ⟨tb,rb,vc,L,G,rfl,hO⟩:=h
 have h1:=hO.o
 have hs:=(St.nil w0).AE h1
 refine AR Tryz.func46 Tryz.ntmps46 (k:=?_)
 repeat' (first|refine Sd ?_|(refine al hs (k:=?_);intro b w hz hs)|fail)
 refine cl (h:=by exact Oi tb rb s.t id _ (hO.t.only (hs.AB [] (by simp [h1]) (by simp [D0]))) hid) (k:=?_)
 generalize AV s.t id=q
 rintro v w' ⟨rfl,ho⟩;replace hs:=hs.AN ho;repeat' (first|refine Sb ?_|(refine AU hs (k:=?_);intro w hs)|fail)
 refine AG ?_
 exact ⟨rfl,hs.AB [] (by simp [h1]) (by simp [D0])⟩
def Ti (s:Sy) (id:Int):Int:=if DG (BI s.t id)≠0 then 0 else if BK (AV s.t id)=true then Bj (AF s (AV s.t id).core).A id else (AV s.t id).lag
def tP (s:Sy) (id:Int):Int:=if DG (BI s.t id)≠0 then DG (BI s.t id) else if BK (AV s.t id)=true then N2 (A2 (AF s (AV s.t id).core).A.l id).isSome else 0
theorem Eh.at {s:Sy} (h:Eh s) {x:Tk} (hx:CV s.cf.cores x) (hn:x.st≠0):∃ n:Nat,x.core=n∧n < s.k.length:=by
 have h1:=hx.core hn
 have h2:=h.len
 exact ⟨x.core.toNat,by omega,by omega⟩
theorem Vx (sb:Nat) (s:Sy) (F:List Nat) (id:Int) (w0:World) (h:Cj w0 sb s F) (hid:In64 id):AO Tryz.prog 25 #[.pointer (some ⟨sb,0,none⟩),.int .i64 id] w0 fun v w'=>v = .tuple #[wv (Ti s id),.int .i64 (tP s id)]∧AA [] w0 w':=by
 have hS:=h
 obtain ⟨tb,rb,vc,L,G,rfl,hO⟩:=h
 have h1:=hO.o
 have hs:=(St.nil w0).AE h1
 refine AR Tryz.func25 Tryz.ntmps25 (k:=?_)
 repeat' (first|refine Sa ?_|(refine al hs (k:=?_);intro b w hz hs)|fail)
 refine cl (h:=by exact pT sb s _ id _ (hS.only (hs.AB [] (by simp [h1]) (by simp [D0]))) hid) (k:=?_)
 unfold Ti tP
 have hq:=ok_task hO.ok.row id
 have hq0:=fun e=>task_st (l:=s.t) (id:=id) e
 generalize AV s.t id=q at *
 generalize DG (BI s.t id)=e at *
 by_cases he:e≠0
 ·rw [if_pos he,if_pos he]
  rintro v w' ⟨rfl,ho⟩;replace hs:=hs.AN ho;repeat' (first|refine Sa ?_|(refine AU hs (k:=?_);intro w hs)|(refine al hs (k:=?_);intro b w hz hs)|refine xc_cond rfl (fun hc=>?_) fun hc=>?_|fail)
  ·refine AG ?_
   exact ⟨rfl,hs.AB [] (by simp [h1]) (by simp [D0])⟩
  ·exact absurd hc (by simpa using he)
 ·have XK:e=0:=by
   rcases Classical.em (e=0) with z | z
   ·exact z
   ·exact absurd z he
  rw [if_neg he,if_neg he]
  subst XK
  rintro v w' ⟨rfl,ho⟩;replace hs:=hs.AN ho;repeat' (first|refine Sd ?_|(refine AU hs (k:=?_);intro w hs)|(refine al hs (k:=?_);intro b w hz hs)|fail)
  refine cl (h:=by exact Hp q _) (k:=?_)
  cases hcq:BK q with
  | false =>
    rw [if_neg (by simp),if_neg (by simp)]
    rintro v w' ⟨rfl,ho⟩;replace hs:=hs.AN ho;refine Jd ?_
    refine AY hs (h:=by exact Fj q.lag hq.2.2.2.2.2.1.1 hq.2.2.2.2.2.1.2 _) (k:=?_);intro w' ho hs;repeat' (first|refine Sb ?_|(refine AU hs (k:=?_);intro w hs)|fail)
    refine AG ?_
    exact ⟨rfl,hs.AB [] (by simp [h1]) (by simp [D0])⟩
  | true =>
    rw [if_pos rfl,if_pos rfl]
    obtain ⟨n,hn,hlt⟩:=hO.ok.at hq (hq0 rfl)
    obtain ⟨x,hx,hC,hce⟩:=hO.c.at hlt
    obtain ⟨g,cap,cur,rfl,hg,Fw⟩:=hO.c.ptr hx
    have hL:=hO.c.len
    obtain ⟨qi,qs,qc,qw,qsl,ql⟩:=q
    simp only at hn
    subst hn
    have ec:AF s n=x.c:=hce.symm
    rw [show (({ id:=qi,st:=qs,core:=(n:Int),w:=qw,slice:=qsl,lag:=ql }:Tk).core)=(n:Int) from rfl,ec]
    obtain ⟨s1,q1,m1,Fs,eF,c1,t1,_,gQ,_⟩:=hC.FB
    rintro v w' ⟨rfl,ho⟩;replace hs:=hs.AN ho;repeat' (first|refine vs (k:=?_)|refine Nx.h ?_|refine FY ?_|fail)
    have hoz:=hs.AB [] (by simp [h1]) (by simp [D0])
    replace hs:=((hs.AE (hoz.block hg (by simp))).AE (hoz.block c1 (by simp))).AE (hoz.block t1 (by simp))
    refine dr [18] hs (k:=?_);intro hX w hs
    refine tks 0 6 ?_
    refine tk 6 hX (hr:=fun w' hH=>BJ AJ rfl rfl rfl (by show (0:Int)≤(n:Int);omega) (by show (n:Int) < _;omega)) (k:=?_)
    refine tk 7 hX (hr:=fun w' hH=>r_load AJ rfl rfl (hH rfl) (by repeat (first | exact At.head | (with_reducible apply At.tail))) (by simpa using Fw)) (k:=?_)
    refine tks 8 7 ?_
    refine dt 15 hX (k:=?_)
    have ho:=hs.AB [] (by simp [h1,hg,c1,t1]) (by simp [D0])
    refine AY hs (h:=by exact Xe q1 x.c.A id _ (gQ.only ho) hid) (k:=?_);intro w' ho hs;refine Jb ?_
    refine dn (k:=?_)
    refine tks 16 2 ?_
    refine dt 18 hX (k:=?_)
    repeat' (first|refine Nx.h ?_|(refine AU hs (k:=?_);intro w hs)|fail)
    refine dn (k:=?_)
    refine tk 19 hX (k:=?_)
    refine en (k:=?_)
    refine Jb ?_
    refine AG ?_
    exact ⟨rfl,hs.AB [] (by simp [h1,hg,c1,t1]) (by simp [D0])⟩
theorem aZ (l:List Int) (x:Int):ints (l ++ [x])=ints l ++ [.int .i64 x]:=by simp [ints]
theorem RP (sb:Nat) (s:Sy) (F:List Nat) (w0:World) (h:Cj w0 sb s F):AO Tryz.prog 10 #[.pointer (some ⟨sb,0,none⟩)] w0 fun v w'=>(∃ G,B7 w' 3 1 v (s.k.map Cs.run).length (ints (s.k.map Cs.run)) G∧∀ k∈G,w0.heap.size≤k)∧AA [] w0 w':=by
 obtain ⟨tb,rb,vc,L,G,rfl,hO⟩:=h
 have h1:=hO.o
 have hs:=(St.nil w0).AE h1
 have hlen:=hO.ok.len
 have hlo:=hO.ok.lo
 have hhi:=hO.ok.hi
 have hL:=hO.c.len
 have h0:0 < s.k.length:=by omega
 obtain ⟨x0,hx0,_,_⟩:=hO.c.at h0
 obtain ⟨g,cap,cur,rfl,hg,_⟩:=hO.c.ptr hx0
 refine AR Tryz.func10 Tryz.ntmps10 (k:=?_)
 refine Jd ?_
 have BB:=hs.AB [] (by simp [h1]) (by simp [D0])
 have Fw:∀ (i:Nat) (x:Ce),L[i]?=some x→cur[i]?=some (.pointer (some ⟨x.cb,0,none⟩)):=fun i x hx=>by
  obtain ⟨g',cap',cur',e,hg',NB⟩:=hO.c.ptr hx
  cases e
  rw [hg] at hg'
  simp only [Option.some.injEq,Obj.cells.injEq] at hg'
  have:=congrArg Array.toList hg'.1
  simp only at this
  rw [this];exact NB
 refine BS (fun (v3:Value)=>[(3,v3)]) (fun v3 w=>AA [] w0 w∧∃ G,B7 w 3 1 v3 (s.k.map Cs.run).length (ints (s.k.map Cs.run)) G∧∀ k∈G,w0.heap.size≤k) ?_ ?_
 ·refine BG (fun (x:Nat × Value)=>[(3,x.2),(11,.slice (some ⟨g,0,none⟩) L.length cap),(12,.int .i64 (L.length:Nat)),(13,.int .i64 (x.1:Nat))])
   (fun x w=>x.1≤L.length∧AA [] w0 w∧∃ G,B7 w 3 1 x.2 ((s.k.take x.1).map Cs.run).length (ints ((s.k.take x.1).map Cs.run)) G∧∀ k∈G,w0.heap.size≤k) (fun x=>L.length - x.1) (0,.slice none 0 0) Ae ⟨Nat.zero_le _,BB,[],.inl ⟨rfl,rfl,rfl,rfl⟩,by simp⟩ fun x env wl ⟨hi,BP,hT⟩=>?_
  obtain ⟨i,v5⟩:=x
  simp only at hi hT
  obtain ⟨G3,hG,Dc⟩:=hT
  clear hs
  have hs:=(St.nil wl).AE (BP.block hg (by simp))
  repeat' (first|refine Sa ?_|refine Ax rfl (fun hc=>?_) fun hc=>?_|fail)
  ·have hlt:i < L.length:=by omega
   have Qu:i < s.k.length:=by omega
   obtain ⟨x,hx,hC,hce⟩:=hO.c.at Qu
   have ei:=Dl (m:=L.length) hlt om
   have et:(s.k.take (i+1)).map Cs.run=(s.k.take i).map Cs.run ++ [x.c.run]:=by
    rw [C4 Qu,List.map_append]
    congr 1
    rw [hce,List.getD_eq_getElem?_getD,List.getElem?_eq_getElem Qu];rfl
   have hle:((s.k.take i).map Cs.run).length≤8:=by rw [List.length_map,List.length_take];omega
   generalize (s.k.take i).map Cs.run=A at *
   refine ix (h0:=(by omega)) (h1:=(by omega)) (k:=?_)
   refine lb (hc:=(by simpa using Fw i x hx)) (k:=?_)
   refine Ja ?_
   have hb0:=BP.block hg (by simp)
   have BA:=hs.AB [] (by simp [hb0]) (by simp [D0])
   refine AY hs (h:=by exact qX x.cb x.c x.F _ (hC.only (BP.trans BA))) (k:=?_);intro w' ho hs;repeat' (first|(refine bs hs (k:=?_);intro b w hz hs)|fail)
   have ED:=hs.get (At.head)
   have AM:=hs.AB [] (by simp [hb0]) (by simp [D0])
   refine CO AJ rfl rfl rfl rfl rfl rfl rfl (by decide) (lit_cells (news:=[.int .i64 x.c.run]) ED) (by simp [Value.oneCell']) (hG.keep AM (by simp)) om om ?_
   intro NF w4 ⟨G',IK,Ic⟩ Aw
   have PN:=AM.size
   have OZ:=BP.size
   clear hs
   have hs:=St.nil w4
   refine Ja ?_
   refine A4 (i+1,NF) (by show L.length - (i+1) < L.length - i;omega) (by (repeat (first | exact Ak | (apply Ac;first | exact rfl | exact congrArg (Value.int .i64) ei)))) ⟨by show i+1≤_;omega,((BP.trans AM).news Dc Aw).trans (hs.AD rfl),G',?_,?_⟩
   ·simp only [et]
    rw [List.length_append,aZ]
    exact IK.keep (hs.AD rfl) (by simp)
   ·intro k hk
    rcases Ic k hk with h | h
    ·exact Dc k h
    ·omega
  ·have e:i=s.k.length:=by omega
   subst e
   rw [List.take_length] at hG
   exact Au v5 Ae ⟨BP,G3,hG,Dc⟩
 ·rintro v5 env w ⟨BP,G3,hG,Dc⟩
  clear hs
  have hs:=St.nil w
  refine Ja ?_
  refine AG ?_
  have AT:=hs.AD rfl
  exact ⟨⟨G3,hG.keep AT (by simp),Dc⟩,BP.trans AT⟩
section
variable {QE : Exit → Env → World → Prop} {n : Nat} {env : Env} {w wb : World} {D : Ctx} {H : List CB}
theorem drT (E:List Nat) {e:CB} {id:Nat} {ops:Array Oper} (hs:St wb D (e :: H) w) (hX:XH ops E QE n:=by exact ⟨by kernel_rfl,by kernel_rfl,by kernel_rfl,by (repeat (first | (with_reducible exact QJ) | (with_reducible apply N3) | (with_reducible apply MJ) | (with_reducible apply N7) | (with_reducible apply M4) | (with_reducible apply N0) | (with_reducible apply Nr)))⟩)
 (k:XH ops E QE n→∀ w',St wb D (e :: H) w'→XA Tryz.prog ops E H QE n ops.size (Array.replicate ops.size false) env w'):XC Tryz.prog QE n (.region id ops true) env w:=uH E H hs hX k
end
structure C5 (w:World) (hb sb tb rb:Nat) (v ve:Value) (S:Ch) (L:List Ce) (G Ge:List Nat):Prop where
 h:w.heap[hb]?=some (iP sb ve)
 s:GJ w sb tb rb v S.s L G
 e:ZL w ve S.ev Ge
def CJ (hb sb tb rb:Nat) (L:List Ce) (G Ge:List Nat):List Nat:=hb :: ((sb :: tb :: rb :: (G ++ E6 L)) ++ Ge)
theorem Dv.FB {w:World} {hb:Nat} {s:Ch} {F:List Nat} (h:Dv w hb s F):∃ sb tb rb v ve L G Ge,F=CJ hb sb tb rb L G Ge∧C5 w hb sb tb rb v ve s L G Ge:=by
 obtain ⟨sb,Fs,ve,Ge,rfl,h1,⟨tb,rb,v,L,G,rfl,h2⟩,h3⟩:=h
 exact ⟨sb,tb,rb,v,ve,L,G,Ge,rfl,h1,h2,h3⟩
theorem C5.at {w:World} {hb sb tb rb:Nat} {v ve:Value} {s:Ch} {L:List Ce} {G Ge:List Nat} (h:C5 w hb sb tb rb v ve s L G Ge):Dv w hb s (CJ hb sb tb rb L G Ge):=⟨sb,_,ve,Ge,rfl,h.h,⟨tb,rb,v,L,G,rfl,h.s⟩,h.e⟩
theorem GJ.at {w:World} {sb tb rb:Nat} {v:Value} {s:Sy} {L:List Ce} {G:List Nat} (h:GJ w sb tb rb v s L G):Cj w sb s (sb :: tb :: rb :: (G ++ E6 L)):=⟨tb,rb,v,L,G,rfl,h⟩
theorem GJ.Ah {w w':World} {sb tb rb:Nat} {v:Value} {s:Sy} {L:List Ce} {G F:List Nat} (h:GJ w sb tb rb v s L G) (ho:AA F w w') (hd:∀ k∈sb :: tb :: rb :: (G ++ E6 L),k∉F):GJ w' sb tb rb v s L G :=
 ⟨ho.block h.o (hd _ (by simp)),h.t.keep ho (hd _ (by simp)) (hd _ (by simp)),h.c.Ah ho (fun k hk=>hd k (by simp only [List.mem_cons];exact .inr (.inr (.inr hk)))),h.ok⟩
theorem GJ.only {w w':World} {sb tb rb:Nat} {v:Value} {s:Sy} {L:List Ce} {G:List Nat} (h:GJ w sb tb rb v s L G) (ho:AA [] w w'):GJ w' sb tb rb v s L G:=h.Ah ho (by simp)
theorem C5.only {w w':World} {hb sb tb rb:Nat} {v ve:Value} {s:Ch} {L:List Ce} {G Ge:List Nat} (h:C5 w hb sb tb rb v ve s L G Ge) (ho:AA [] w w'):C5 w' hb sb tb rb v ve s L G Ge :=
 ⟨ho.block h.h (by simp),h.s.only ho,h.e.keep ho (by simp)⟩
theorem C5.tell {w w1 w2:World} {hb sb tb rb:Nat} {v ve ZJ:Value} {s:Ch} {L:List Ce} {G Ge Vy:List Nat} (h:C5 w hb sb tb rb v ve s L G Ge) {x:Ev} (ho:AA Ge w w1) (ha:B7 w1 41 5 ZJ (s.ev.length+1) (NA s.ev ++ x.cells) Vy) (hG:∀ k∈Vy,k∈Ge∨w.heap.size≤k) (AM:AA [hb] w1 w2) (hh:w2.heap[hb]?=some (iP sb ZJ)) :
 C5 w2 hb sb tb rb v ZJ ⟨s.s,s.ev ++ [x]⟩ L G Vy:=by
 have hS:=h.s.at
 have d1:∀ k∈sb :: tb :: rb :: (G ++ E6 L),k∉Ge:=fun k hk hm=>by
  obtain ⟨cs,hc⟩:=Lu h.e k hm
  exact hS.not hc rfl hk
 have n1:hb∉Ge:=fun hm=>BX h.e h.h (by decide) hm
 have h1:=ho.block h.h n1
 have s1:=h.s.Ah ho d1
 refine ⟨hh,s1.Ah AM fun k hk hm=>?_,?_⟩
 ·obtain rfl:=List.mem_singleton.1 hm
  exact s1.at.not h1 rfl hk
 ·unfold ZL
  rw [List.length_append,Yg]
  exact ha.keep AM fun k hk hm=>by obtain rfl:=List.mem_singleton.1 hm;exact BX ha h1 (by decide) hk
theorem Ve (s:Ch) (k:Int) (l:List Gn) {i:Nat} (h:i < l.length):(l.take (i+1)).foldl (DN k) s=DN k ((l.take i).foldl (DN k) s) l[i]:=by rw [C4 h,List.foldl_append];rfl
theorem mK (s:Ch) (k:Int) (l:List Pr) {i:Nat} (h:i < l.length):(l.take (i+1)).foldl (GB k) s=GB k ((l.take i).foldl (GB k) s) l[i]:=by rw [C4 h,List.foldl_append];rfl
theorem Xa (k:Int) (l:List Pr) (s:Ch):(l.foldl (GB k) s).ev.length=s.ev.length+l.length:=by rw [(O5 k l s).2,List.length_append,List.length_map]
theorem pL (k:Int) (l:List Gn) (s:Ch):(l.foldl (DN k) s).ev.length=s.ev.length+l.length:=by rw [Tl,List.length_append,List.length_map]
theorem Qb (hb sb tb rb:Nat) (v ve:Value) (s:Ch) (L:List Ce) (G Ge:List Nat) (k:Int) (rv:Value) (r:Rp) (w0:World) (hO:C5 w0 hb sb tb rb v ve s L G Ge) (hr:M7 w0 rv r) (hg:Cv r) (hl:s.ev.length+r.p.length+r.g.length≤4000000000000) :
 AO Tryz.prog 60 #[.pointer (some ⟨hb,0,none⟩),.int .i64 k,rv] w0 fun _ w'=>∃ ZJ Vy,C5 w' hb sb tb rb v ZJ (Ay s k r) L G Vy∧(∀ i∈Vy,i∈Ge∨w0.heap.size≤i)∧AA (CJ hb sb tb rb L G Ge) w0 w':=by
 have mI:=hO.at
 obtain ⟨vg,vp,Gg,Gp,rfl,pg,pp⟩:=hr
 have uC:Cu w0 170 13 vg (r.g.map Gn.cells):=B7.ls pg rfl (by simp) (fun x hx=>by obtain ⟨g,_,rfl⟩:=List.mem_map.1 hx;rfl)
 have sW:Cu w0 168 3 vp (r.p.map Pr.cells):=B7.ls pp rfl (by simp) (fun x hx=>by obtain ⟨g,_,rfl⟩:=List.mem_map.1 hx;rfl)
 obtain ⟨ag,cg,rfl,uC⟩:=uC
 obtain ⟨ap,cp,rfl,sW⟩:=sW
 rw [List.length_map] at pg uC
 rw [List.length_map] at pp sW
 rw [List.length_map,List.length_map]
 have hh:=hO.h
 have Wq:=mI.lt
 have hs:=(St.nil w0).AE hh
 refine AR Tryz.func60 Tryz.ntmps60 (k:=?_)
 refine Ai ?_
 refine Ao ?_
 refine bx hs (k:=?_);clear hs;intro b5 w1 Jq hs
 refine Ja ?_
 have g5:=hs.new (b5,true) (by simp) rfl
 simp only at g5
 have BB:=hs.AB [] (by simp [hh]) (by simp [D0])
 have k5:=hs.get (b:=b5) (by repeat (first | exact At.head | (with_reducible apply At.tail)))
 have zA:=BB.size
 refine BS (fun (_:Value × List Nat)=>[(0,.pointer (some ⟨hb,0,none⟩)),(1,.int .i64 k),(5,.pointer (some ⟨b5,0,none⟩))]) (fun y w=>w.heap[b5]?=some (Kl (.slice ag r.g.length cg) (.slice ap r.p.length cp))∧C5 w hb sb tb rb v y.1 (r.p.foldl (GB k) s) L G y.2∧(∀ i∈y.2,i∈Ge∨w0.heap.size≤i)∧AA (CJ hb sb tb rb L G Ge) w0 w) ?_ ?_
 ·refine BG (fun (x:Nat × Value × List Nat)=>[(0,.pointer (some ⟨hb,0,none⟩)),(1,.int .i64 k),(5,.pointer (some ⟨b5,0,none⟩)),(13,.slice ap r.p.length cp),(14,.int .i64 (r.p.length:Nat)),(15,.int .i64 (x.1:Nat))])
   (fun x w=>x.1≤r.p.length∧w.heap[b5]?=some (Kl (.slice ag r.g.length cg) (.slice ap r.p.length cp))∧C5 w hb sb tb rb v x.2.1 ((r.p.take x.1).foldl (GB k) s) L G x.2.2∧(∀ i∈x.2.2,i∈Ge∨w0.heap.size≤i)∧AA (CJ hb sb tb rb L G Ge) w0 w) (fun x=>r.p.length - x.1) (0,ve,Ge) Ae ⟨Nat.zero_le _,k5,hO.only BB,fun i hi => .inl hi,BB.weaken (by simp)⟩ fun x env wl ⟨hi,hB,hC,L1,ho⟩=>?_
  obtain ⟨i,v5,G5⟩:=x
  simp only at hi hC L1
  clear hs
  have hs:=((St.nil wl).AE hB).AE hC.h
  repeat' (first|refine Sa ?_|refine Ax rfl (fun hc=>?_) fun hc=>?_|fail)
  ·have hlt:i < r.p.length:=by omega
   obtain ⟨b,off,cs,fz,rfl,_,CN,hcs⟩:=sW (fun h=>by have:=congrArg List.length h;rw [List.length_map,List.length_nil] at this;omega)
   have hpk:=hcs i (Pr.cells r.p[i]) (by rw [List.getElem?_map,List.getElem?_eq_getElem hlt];rfl)
   have ei:=Dl (m:=r.p.length) hlt om
   have et:=mK s k r.p hlt
   have MK:=Xa k (r.p.take i) s
   rw [List.length_take] at MK
   have Jw:=ho.block CN (mI.not CN rfl)
   generalize r.p[i]=q at *
   generalize (r.p.take i).foldl (GB k) s=S at *
   refine ix (h0:=(by omega)) (h1:=(by omega)) (k:=?_)
   refine JQ (vs:=q.cells) Jw hpk (k:=?_)
   refine al hs (k:=?_);clear hs;intro b7 w7 Ze hs
   refine AU hs (k:=?_);clear hs;intro w8 hs
   refine Jb ?_
   have Eb:=hs.AB [] (by simp [hB,hC.h]) (by simp [D0])
   have k7:=hs.get (b:=b7) (by repeat (first | exact At.head | (with_reducible apply At.tail)))
   have hC8:=hC.only Eb
   have hB8:=Eb.block hB (by simp)
   have g7:=hs.new (b7,true) (by simp) rfl
   simp only at g7
   clear hs
   have hs:=((St.nil _).AE k7).AE hC8.h
   refine dr [17] hs (k:=?_);intro hX w hs
   refine tks 0 13 ?_
   refine dt 13 hX (k:=?_)
   refine bs hs (k:=?_);clear hs;intro b9 w9 yB hs
   refine XS.nil ?_
   refine dn (k:=?_)
   refine dt 14 hX (k:=?_)
   have qV:=hs.AB [] (by simp [k7,hC8.h]) (by simp [D0])
   have Lc:=Eb.trans qV
   have Wv:=hC8.only qV
   have hB9:=qV.block hB8 (by simp)
   have z9:=Lc.size
   have z0:=ho.size
   refine CO AJ rfl rfl rfl rfl rfl rfl rfl (by decide) (lit_cells (news:=Ev.cells (UW k q)) (hs.get At.head)) (by simp [Value.oneCell']) Wv.e om om ?_
   intro v10 Z0 ⟨G10,aAz,uE⟩ JY
   obtain ⟨a10,aCq,rfl⟩:=BZ aAz
   have c1:=JY.block Wv.h (fun hm=>BX Wv.e Wv.h (by decide) hm)
   have k7':=JY.block (hs.get (b:=b7) (by repeat (first | exact At.head | (with_reducible apply At.tail)))) (fun hm=>BX Wv.e (hs.get (b:=b7) (by repeat (first | exact At.head | (with_reducible apply At.tail)))) (by decide) hm)
   have b5':=JY.block hB9 (fun hm=>BX Wv.e hB9 (by decide) hm)
   clear hs
   have hs:=((St.nil Z0).AE k7').AE c1
   refine XS.nil ?_
   refine dn (k:=?_)
   refine tks 15 2 ?_
   refine dt 17 hX (k:=?_)
   refine st hs (k:=?_);clear hs;intro w11 hs
   refine XS.nil ?_
   refine dn (k:=?_)
   refine en (k:=?_)
   refine Ja ?_
   have Bn:AA [hb] Z0 _:=hs.AB [hb] (by simp [k7']) (by simp [D0])
   have aCL:=Bn.block b5' (by simpa using A3 b5' c1 (by decide))
   have hT:=Wv.tell (x:=UW k q) JY aAz uE Bn (hs.get (b:=hb) (by repeat (first | exact At.head | (with_reducible apply At.tail))))
   refine A4 (i+1,.slice a10 (S.ev.length+1) aCq,G10) (by show r.p.length - (i+1) < r.p.length - i;omega) (by (repeat (first | exact Ak | (apply Ac;first | exact rfl | exact congrArg (Value.int .i64) ei)))) ⟨by show i+1≤_;omega,aCL,?_,fun j hj=>?_,((ho.step Lc (by simp)).step JY (fun j hj=>?_)).step Bn (fun j hj => .inl (by obtain rfl:=List.mem_singleton.1 hj;simp [CJ]))⟩
   ·show C5 _ hb sb tb rb v _ ((r.p.take (i+1)).foldl (GB k) s) L G G10
    rw [et]
    exact hT
   ·rcases uE j hj with q | q
    ·exact L1 j q
    ·exact .inr om
   ·rcases L1 j hj with q | q
    ·exact .inl (by simp [CJ,q])
    ·exact .inr q
  ·have e:i=r.p.length:=by omega
   subst e
   rw [List.take_length] at hC
   exact Au (v5,G5) Ae ⟨hB,hC,L1,ho⟩
 ·rintro ⟨v5,G5⟩ env w2 ⟨hB,hC,L1,ho⟩
  simp only at hC L1
  have aDC:=Xa k r.p s
  have eA:Ay s k r=r.g.foldl (DN k) (r.p.foldl (GB k) s):=rfl
  generalize r.p.foldl (GB k) s=S0 at *
  clear hs
  have hs:=(St.nil w2).AE hB
  refine Ja ?_
  have Am:=hs.AB [] (by simp [hB]) (by simp [D0])
  refine BS (fun (_:Value × List Nat)=>[]) (fun y w=>C5 w hb sb tb rb v y.1 (r.g.foldl (DN k) S0) L G y.2∧(∀ i∈y.2,i∈Ge∨w0.heap.size≤i)∧AA (CJ hb sb tb rb L G Ge) w0 w) ?_ ?_
  ·refine BG (fun (x:Nat × Value × List Nat)=>[(0,.pointer (some ⟨hb,0,none⟩)),(1,.int .i64 k),(38,.slice ag r.g.length cg),(39,.int .i64 (r.g.length:Nat)),(40,.int .i64 (x.1:Nat))])
    (fun x w=>x.1≤r.g.length∧C5 w hb sb tb rb v x.2.1 ((r.g.take x.1).foldl (DN k) S0) L G x.2.2∧(∀ i∈x.2.2,i∈Ge∨w0.heap.size≤i)∧AA (CJ hb sb tb rb L G Ge) w0 w) (fun x=>r.g.length - x.1) (0,v5,G5) Ae ⟨Nat.zero_le _,hC.only Am,L1,ho.step Am (by simp)⟩ fun x env wl ⟨hi,hC,L1,rS⟩=>?_
   obtain ⟨i,v5,G5⟩:=x
   simp only at hi hC L1
   clear hs
   have hs:=((St.nil wl).AE hC.s.o).AE hC.h
   repeat' (first|refine Sa ?_|refine Ax rfl (fun hc=>?_) fun hc=>?_|fail)
   ·have hlt:i < r.g.length:=by omega
    obtain ⟨b,off,cs,fz,rfl,_,CN,hcs⟩:=uC (fun h=>by have:=congrArg List.length h;rw [List.length_map,List.length_nil] at this;omega)
    have hpk:=hcs i (Gn.cells r.g[i]) (by rw [List.getElem?_map,List.getElem?_eq_getElem hlt];rfl)
    have ei:=Dl (m:=r.g.length) hlt om
    have et:=Ve S0 k r.g hlt
    have MK:=pL k (r.g.take i) S0
    rw [List.length_take] at MK
    have Jw:=rS.block CN (mI.not CN rfl)
    have Zd:=hg r.g[i] (List.getElem_mem hlt)
    generalize r.g[i]=q at *
    generalize (r.g.take i).foldl (DN k) S0=S at *
    refine ix (h0:=(by omega)) (h1:=(by omega)) (k:=?_)
    refine JQ (vs:=q.cells) Jw hpk (k:=?_)
    refine al hs (k:=?_);clear hs;intro b9 w9 yB hs
    refine AU hs (k:=?_);clear hs;intro Z0 hs
    refine Jb ?_
    refine dr [] hs (k:=?_);intro hX w hs
    refine tks 0 9 ?_
    refine HO 13 10 hs (k:=?_);intro f X w hp;have hs:=hp.st
    apply BM 9 13 (f:=f) (X:=X) hX hp;exact rfl;exact rfl;(apply AS AJ;exact rfl);kernel_rfl;kernel_rfl;kernel_rfl;kernel_rfl;(intro X Y;(repeat (first | exact A6 | refine A5 ?_ (by exact rfl))));(intro w' hs;first|exact AI hs.hold|exact AI hs.hold.tail|exact A9 rfl);intro f X w hp;have hs:=hp.st
    have JY:=hs.AB [] (by simp [hC.s.o,hC.h]) (by simp [D0])
    refine cl (h:=by exact Oi tb rb S.s.t q.id _ (hC.s.t.only JY) Zd.2) (k:=?_)
    have hx:=ok_task hC.s.ok.row q.id
    have eG:Dx S.s q={ AV S.s.t q.id with st:=3,lag:=Fa S.s.cf q.lag (AV S.s.t q.id).slice }:=rfl
    generalize AV S.s.t q.id=x at *
    rintro v w' ⟨rfl,ho⟩;replace hp:=hp.only ho;replace hs:=hp.st;refine Jb ?_
    refine dn (k:=?_)
    refine tk 10 hX (hc:=by cases f <;> kernel_rfl) (k:=?_)
    refine tk 11 hX (hc:=by cases f <;> kernel_rfl) (k:=?_)
    refine tk 12 hX (hc:=by cases f <;> kernel_rfl) (k:=?_)
    apply Bi 13 (f:=f) (X:=X) hX hp;exact rfl;(apply AS AJ;exact rfl);kernel_rfl;kernel_rfl;(intro X Y;(repeat (first | exact A6 | refine A5 ?_ (by exact rfl))));(intro w' hs;first|exact AI hs.hold|exact AI hs.hold.tail|exact A9 rfl);intro b w hI hs
    refine dt 14 hX (k:=?_)
    repeat' (first|refine Nx.h ?_|(refine AU hs (k:=?_);intro w hs)|fail)
    refine dn (k:=?_)
    refine tk 15 hX (k:=?_)
    refine en (k:=?_)
    refine Jb ?_
    refine drT [] hs (k:=?_);intro hX w hs
    refine tks 0 10 ?_
    refine dt 10 hX (k:=?_)
    refine Jc ?_
    refine dn (k:=?_)
    refine tk 12 hX (k:=?_)
    refine dt 11 hX (k:=?_)
    refine AY hs (h:=by exact R9 S.s.cf q.lag x.slice hC.s.ok.cf Zd.1 hx.2.2.2.2.1 _) (k:=?_);intro w' ho hs;refine Jb ?_
    refine dn (k:=?_)
    refine dt 13 hX (k:=?_)
    repeat' (first|refine Nx.h ?_|(refine st hs (k:=?_);intro w hs)|fail)
    refine dn (k:=?_)
    refine tk 14 hX (k:=?_)
    refine dt 15 hX (k:=?_)
    repeat' (first|refine Nx.h ?_|(refine st hs (k:=?_);intro w hs)|fail)
    refine dn (k:=?_)
    refine en (k:=?_)
    refine Jb ?_
    refine dr [] hs (k:=?_);intro hX w hs
    refine tks 0 8 ?_
    refine dt 8 hX (k:=?_)
    have IL:=hs.AB [] (by simp [hC.s.o,hC.h]) (by simp [D0])
    have eS:Jr (Dx S.s q) = .agg #[.int .i64 x.id,.int .u8 3,.int .i64 x.core,.int .u32 x.w,.int .u64 x.slice,.int .i64 (Fa S.s.cf q.lag x.slice)]:=by rw [eG];rfl
    rw [← eS]
    have hok:CV S.s.cf.cores (Dx S.s q):=CV.r8 hC.s.ok q
    refine cl (h:=by exact Fv tb rb S.s.t (Dx S.s q) _ (hC.s.t.only IL) hok.1) (k:=?_)
    rintro v12 w12 ⟨rfl,GD,By⟩
    obtain ⟨cap,rest,t1,t2,_⟩:=(hC.s.t.only IL)
    have kh:=By.block (hs.get (b:=hb) (o:=iP sb v5) (by repeat (first | exact At.head | (with_reducible apply At.tail)))) (by simpa using A3 (hs.get (b:=hb) (o:=iP sb v5) (by repeat (first | exact At.head | (with_reducible apply At.tail)))) t2 (by decide))
    have k9:=By.block (hs.get (b:=b9) (by repeat (first | exact At.head | (with_reducible apply At.tail)))) (by simpa using A3 (hs.get (b:=b9) (by repeat (first | exact At.head | (with_reducible apply At.tail)))) t2 (by decide))
    have aAT:GJ w12 sb tb rb v (Bk S.s (Dx S.s q)) L G:=(hC.s.only IL).rows GD By (hC.s.ok.Bu hok)
    have aCm:ZL w12 v5 S.ev G5:=(hC.e.keep IL (by simp)).keep By (fun j hj hm=>by obtain rfl:=List.mem_singleton.1 hm;exact BX (hC.e.keep IL (by simp)) t2 (by decide) hj)
    have dV:C5 w12 hb sb tb rb v v5 ⟨Bk S.s (Dx S.s q),S.ev⟩ L G G5:=⟨kh,aAT,aCm⟩
    have gb:=hs.new (b,true) (by simp) rfl
    have aD:=hC.s.t.Rr.2
    simp only at gb
    have rV:=By.block (hs.get (b:=b) (by repeat (first | exact At.head | (with_reducible apply At.tail)))) (by simp;omega)
    have ks:=aAT.o
    clear hs
    have hs:=((((St.nil w12).AE ks).AE kh).AE k9).AE rV
    refine XS.nil ?_
    refine dn (k:=?_)
    refine en (k:=?_)
    refine Jb ?_
    have fC:=hs.AB [] (by simp [ks,kh,k9,rV]) (by simp [D0])
    replace dV:=dV.only fC
    replace By:=By.step fC (by simp)
    replace k9:=fC.block k9 (by simp)
    replace kh:=dV.h
    clear hs
    have hs:=((St.nil _).AE k9).AE kh
    refine dr [13] hs (k:=?_);intro hX w hs
    refine tks 0 9 ?_
    refine dt 9 hX (k:=?_)
    refine bs hs (k:=?_);clear hs;intro b13 Jt aDD hs
    refine XS.nil ?_
    refine dn (k:=?_)
    refine dt 10 hX (k:=?_)
    have J9:=hs.AB [] (by simp [k9,kh]) (by simp [D0])
    have UA:=dV.only J9
    have z13:=J9.size
    have z12:=By.size
    have z11:=IL.size
    have z0:=rS.size
    refine CO AJ rfl rfl rfl rfl rfl rfl rfl (by decide) (lit_cells (news:=Ev.cells ⟨k,q.id,0,false,true⟩) (hs.get At.head)) (by simp [Value.oneCell']) UA.e (by show (S.ev.length+1)*32≤_;omega) (by show S.ev.length+1≤_;omega) ?_
    intro v14 w14 ⟨G14,x5,uB⟩ Ki
    obtain ⟨a14,aB7,rfl⟩:=BZ x5
    have c1:=Ki.block UA.h (fun hm=>BX UA.e UA.h (by decide) hm)
    have k9':=Ki.block (hs.get (b:=b9) (by repeat (first | exact At.head | (with_reducible apply At.tail)))) (fun hm=>BX UA.e (hs.get (b:=b9) (by repeat (first | exact At.head | (with_reducible apply At.tail)))) (by decide) hm)
    clear hs
    have hs:=((St.nil w14).AE k9').AE c1
    refine XS.nil ?_
    refine dn (k:=?_)
    refine tks 11 2 ?_
    refine dt 13 hX (k:=?_)
    refine st hs (k:=?_);clear hs;intro sQ hs
    refine XS.nil ?_
    refine dn (k:=?_)
    refine en (k:=?_)
    refine Ja ?_
    have Bn:AA [hb] w14 _:=hs.AB [hb] (by simp [k9']) (by simp [D0])
    have hT:=UA.tell (x:=⟨k,q.id,0,false,true⟩) Ki x5 uB Bn (hs.get (b:=hb) (by repeat (first | exact At.head | (with_reducible apply At.tail))))
    refine A4 (i+1,.slice a14 (S.ev.length+1) aB7,G14) (by show r.g.length - (i+1) < r.g.length - i;omega) (by (repeat (first | exact Ak | (apply Ac;first | exact rfl | exact congrArg (Value.int .i64) ei)))) ⟨by show i+1≤_;omega,?_,fun j hj=>?_,((((rS.step IL (by simp)).step By (fun j hj => .inl (by obtain rfl:=List.mem_singleton.1 hj;simp [CJ]))).step J9 (by simp)).step Ki (fun j hj=>?_)).step Bn (fun j hj => .inl (by obtain rfl:=List.mem_singleton.1 hj;simp [CJ]))⟩
    ·show C5 _ hb sb tb rb v _ ((r.g.take (i+1)).foldl (DN k) S0) L G G14
     rw [et]
     exact hT
    ·rcases uB j hj with q | q
     ·exact L1 j q
     ·exact .inr om
    ·rcases L1 j hj with q | q
     ·exact .inl (by simp [CJ,q])
     ·exact .inr q
   ·have e:i=r.g.length:=by omega
    subst e
    rw [List.take_length] at hC
    exact Au (v5,G5) Ae ⟨hC,L1,rS⟩
  ·rintro ⟨v6,G6⟩ env w3 ⟨hC,L1,ho⟩
   simp only at hC L1
   clear hs
   have hs:=St.nil w3
   skip
   refine JK ?_
   have AM:=hs.AD rfl
   exact ⟨_,_,by rw [eA];exact hC.only AM,L1,ho.step AM (by simp)⟩
theorem G0 (hb:Nat) (s:Ch) (F:List Nat) (k:Int) (rv:Value) (r:Rp) (w0:World) (h:Dv w0 hb s F) (hr:M7 w0 rv r) (hg:Cv r) (hl:s.ev.length+r.p.length+r.g.length≤4000000000000) :
 AO Tryz.prog 60 #[.pointer (some ⟨hb,0,none⟩),.int .i64 k,rv] w0 fun v w'=>tD w0 hb (Ay s k r) F w':=by
 obtain ⟨sb,tb,rb,v,ve,L,G,Ge,rfl,hO⟩:=h.FB
 refine (Qb hb sb tb rb v ve s L G Ge k rv r w0 hO hr hg hl).mono fun v' w' ⟨ZJ,Vy,h1,h2,h3⟩=>⟨_,h1.at,fun j hj=>?_,h3⟩
 simp only [CJ,List.mem_cons,List.mem_append] at hj ⊢
 rcases hj with hj | hj | hj
 ·exact .inl (.inl hj)
 ·exact .inl (.inr (.inl hj))
 ·rcases h2 j hj with q | q
  ·exact .inl (.inr (.inr q))
  ·exact .inr q
end Go.Proofs.Q0
namespace Go.Proofs.Q0
open Go Go.RowKit
section
variable {ops : Array Oper} {QE : Exit → Env → World → Prop} {n : Nat} {rest : List Oper} {env : Env} {w wb : World} {D : Ctx} {H : List CB} {d : Option Nat} {ty : Nat} {pos : String} {Ap : Array Edge} {g : Option (Nat × Bool)}
def JV (H:List CB):List CB:=H.map fun e=>(e.1,e.2.1,false)
theorem St.nZ (hs:St w D0 H w) {b:Nat} {o:Obj} {w':World} (h:St w D0 ((b,o,true) :: H) w'):AA [] w w' :=
 h.AB [] (fun e he=>by
  rcases List.mem_cons.1 he with rfl | he
  ·exact .inl rfl
  ·exact .inr (.inr (hs.hold e he))) (by simp [D0])
theorem St.new1 {b:Nat} {o:Obj} {w':World} (h:St w D0 ((b,o,true) :: H) w'):w.heap.size≤b:=h.new (b,true) (by simp) rfl
theorem St.new2 {b:Nat} {o:Obj} {w':World} (h:St w D0 ((b,o,true) :: H) w') (hf:JV H=H):St w' D0 ((b,o,false) :: H) w':=by
 have h1:=h.FH
 rw [List.map_cons] at h1
 unfold JV at hf
 rw [hf] at h1
 exact h1
theorem St.Es (h:St wb D H w) {b:Nat} {cs:Array Value} {ty:Nat} {fz:Nat × Nat} (hb:w.heap[b]?=some (.cells cs ty fz)) (hn:(H.all fun e=>Tw ty e.2.1)=true:=by rfl):b∉H.map (·.1):=fun hm=>by
 obtain ⟨e,he,rfl⟩:=List.mem_map.1 hm
 have h1:=List.all_eq_true.1 hn e he
 have h2:=h.at_ e he
 rw [hb] at h2
 rw [← Option.some.inj h2] at h1
 simp [Tw] at h1
theorem St.EC (hs:St w D0 H w) {F:List Nat} {w':World} (ho:AA F w w') (hF:∀ k∈F,k∉H.map (·.1)) (hf:JV H=H:=by rfl):St w' D0 H w':=by
 have h1:=(hs.call ho hF (by simp [D0])).FH
 unfold JV at hf
 rw [hf] at h1
 exact h1
theorem St.JR (hs:St w D0 H w) {w':World} (ho:AA [] w w') (hf:JV H=H:=by rfl):St w' D0 H w':=hs.EC ho (by simp) hf
theorem Fg {t:Nat} {cs:List Value} (hs:St w D0 H w) (ht:look t Hu.zs=some cs:=by exact rfl) (hf:JV H=H:=by rfl) (hw:BD ops env g=true:=by exact rfl)
 (k:∀ b w',AA [] w w'→w.heap.size≤b→St w' D0 ((b,.cells cs.toArray t,false) :: H) w'→XS Tryz.prog ops QE n rest (CD env d (.pointer (some ⟨b,0,none⟩))) w'):XS Tryz.prog ops QE n (⟨d,.alloc t,ty,pos,Ap,g⟩ :: rest) env w :=
 xs_alloc AJ ht hw hs fun b w' _ h=>k b w' (hs.nZ h) h.new1 (h.new2 hf)
theorem HP {t:Nat} {x:Operand} {cs:List Value} (hs:St w D0 H w) (hf:JV H=H:=by rfl) (hw:BD ops env g=true:=by exact rfl) (hx:(ev env x).cells=cs.toArray:=by exact rfl)
 (k:∀ b w',AA [] w w'→w.heap.size≤b→St w' D0 ((b,.cells cs.toArray t,false) :: H) w'→XS Tryz.prog ops QE n rest (CD env d (.pointer (some ⟨b,0,none⟩))) w'):XS Tryz.prog ops QE n (⟨d,.box t x,ty,pos,Ap,g⟩ :: rest) env w :=
 xs_box hw hx hs fun b w' _ h=>k b w' (hs.nZ h) h.new1 (h.new2 hf)
theorem bs1 {t e size bytes len:Nat} {parts:Array (Nat × Operand)} {zs cs:List Value} (hs:St w D0 H w) (hf:JV H=H:=by rfl) (hw:BD ops env g=true:=by exact rfl) (DR:look t Hu.sls=some (e,size,bytes):=by exact rfl) (hz:look e Hu.zs=some zs:=by exact rfl) (hzl:Nat.beq zs.length size=true:=by exact rfl) (Oc:Nat.ble (len*size) 16777216=true:=by exact rfl) (hps:Nat.beq (len*size) 0=false:=by exact rfl)
 (hb:C7 env (NX len size) (Ri zs (len*size)) parts.toList cs:=by (repeat (first | exact C7.nil | (apply C7.one;exact rfl;(conv=>lhs;whnf);exact rfl;(repeat (first | exact Al.nil | apply Al.skip | apply Al.cons))) | (apply C7.agg;exact rfl;exact rfl;exact rfl;(repeat (first | exact Al.nil | apply Al.skip | apply Al.cons))))))
 (k:∀ b w',AA [] w w'→w.heap.size≤b→St w' D0 ((b,.cells cs.toArray e,false) :: H) w'→XS Tryz.prog ops QE n rest (CD env d (.slice (some ⟨b,0,none⟩) len len)) w'):XS Tryz.prog ops QE n (⟨d,.buildSlice t len parts,ty,pos,Ap,g⟩ :: rest) env w :=
 I8 AJ hw DR hz hzl Oc hps hb hs fun b w' _ h=>k b w' (hs.nZ h) h.new1 (h.new2 hf)
theorem St.aAs (hs:St w D0 H w) {H':List CB} {b:Nat} {w':World} (h:St w D0 H' w') (hb:∀ e∈H',e.1=b∨e∈H) (hf:JV H'=H'):AA [b] w w'∧St w' D0 H' w':=by
 refine ⟨h.AB [b] (fun e he=>?_) (by simp [D0]),?_⟩
 ·rcases hb e he with q | q
  ·exact .inr (.inl (by simp [q]))
  ·exact .inr (.inr (hs.hold e q))
 ·have h1:=h.FH
  unfold JV at hf
  rw [hf] at h1
  exact h1
theorem At.others {b:Nat} {o:Obj} {nw:Bool} {f:Obj→List CB} (h:At H b o nw f) (o':Obj):∀ e∈f o',e.1=b∨e∈H:=by
 induction h with
 | head =>
   intro e he
   rcases List.mem_cons.1 he with rfl | he
   ·exact .inl rfl
   ·exact .inr (List.mem_cons_of_mem _ he)
 | tail _ ih =>
   intro e he
   rcases List.mem_cons.1 he with rfl | he
   ·exact .inr List.mem_cons_self
   ·rcases ih e he with q | q
    ·exact .inl q
    ·exact .inr (List.mem_cons_of_mem _ q)
theorem kS {t b off:Nat} {x y:Operand} {cs cs':List Value} {E:TypeId} {nw:Bool} {f:Obj→List CB} {v:Value} (hs:St w D0 H w) (ht:look t Hu.tks=some (false,1):=by exact rfl) (hw:BD ops env g=true:=by exact rfl)
 (hp:ev env x = .pointer (some ⟨b,off,none⟩):=by exact rfl) (hv:ev env y=v:=by (conv=>lhs;whnf)) (h1:v.oneCell'=true:=by exact rfl) (hA:At H b (.cells cs.toArray E (0,0)) nw f:=by (repeat (first | exact At.head | (with_reducible apply At.tail)))) (hc:Al cs off [v] cs':=by (repeat (first | exact Al.nil | apply Al.skip | apply Al.cons))) (hf:JV (f (.cells cs'.toArray E (0,0)))=f (.cells cs'.toArray E (0,0)):=by rfl)
 (k:∀ w',AA [b] w w'→St w' D0 (f (.cells cs'.toArray E (0,0))) w'→XS Tryz.prog ops QE n rest (CD env d undef) w'):XS Tryz.prog ops QE n (⟨d,.store t x y,ty,pos,Ap,g⟩ :: rest) env w :=
 xs_store AJ ht hw hp hv h1 hs hA hc fun w' h=>(fun q=>k w' q.1 q.2) (hs.aAs h (hA.others _) hf)
theorem Dq {t b off m:Nat} {x y:Operand} {cs vs cs':List Value} {E:TypeId} {nw:Bool} {f:Obj→List CB} (hs:St w D0 H w) (ht:look t Hu.tks=some (true,m):=by exact rfl) (hw:BD ops env g=true:=by exact rfl)
 (hp:ev env x = .pointer (some ⟨b,off,none⟩):=by exact rfl) (hv:ev env y = .agg vs.toArray:=by exact rfl) (hm:Nat.beq vs.length m=true:=by exact rfl) (h1:vs.all Value.oneCell'=true:=by exact rfl) (hA:At H b (.cells cs.toArray E (0,0)) nw f:=by (repeat (first | exact At.head | (with_reducible apply At.tail)))) (hc:Al cs off vs cs':=by (repeat (first | exact Al.nil | apply Al.skip | apply Al.cons))) (hf:JV (f (.cells cs'.toArray E (0,0)))=f (.cells cs'.toArray E (0,0)):=by rfl)
 (k:∀ w',AA [b] w w'→St w' D0 (f (.cells cs'.toArray E (0,0))) w'→XS Tryz.prog ops QE n rest (CD env d undef) w'):XS Tryz.prog ops QE n (⟨d,.store t x y,ty,pos,Ap,g⟩ :: rest) env w :=
 VD AJ ht hw hp hv hm h1 hs hA hc fun w' h=>(fun q=>k w' q.1 q.2) (hs.aAs h (hA.others _) hf)
theorem IW (E:List Nat) {id:Nat} {ops:Array Oper} (hs:St w D0 H w) (hX:XH ops E QE n:=by exact ⟨by kernel_rfl,by kernel_rfl,by kernel_rfl,by (repeat (first | (with_reducible exact QJ) | (with_reducible apply N3) | (with_reducible apply MJ) | (with_reducible apply N7) | (with_reducible apply M4) | (with_reducible apply N0) | (with_reducible apply Nr)))⟩) (hf:JV H=H:=by rfl)
 (k:XH ops E QE n→∀ w',AA [] w w'→St w' D0 H w'→XA Tryz.prog ops E H QE n ops.size (Array.replicate ops.size false) env w'):XC Tryz.prog QE n (.region id ops true) env w :=
 dr E hs hX fun hX w' h=>k hX w' (h.AB [] (fun e he => .inr (.inr (hs.hold e he))) (by simp [D0])) (by
  have h1:=h.FH
  unfold JV at hf
  rw [hf] at h1
  exact h1)
end
end Go.Proofs.Q0
namespace Go.Proofs.Q0
namespace FL
structure F1 where
 w:Rat
 x:Rat
 e:Rat
def lag (V:Rat) (k:F1):Rat:=k.w*V - k.x
end FL
end Go.Proofs.Q0
namespace Go.Proofs.Q0
open IB (IT)
open FL
theorem VQ {c:Cs} {m:Int} {a:RT} (hg:C8 c.A.l c.run=a.1) (m0:0≤m) (he:ER c m=0):(Dj c m).1.i.id=a.1.i.id∧HG a.1.i.p (BW c m*1048576)=some (Dj c m).1.i.p∧1≤BW c m∧BW c m≤a.1.left∧((Dj c m).1.left=a.1.left - BW c m∨a.1.left - BW c m=0):=by
 cases e:FT c m with
 | none =>
   have:ER c m=2:=by unfold ER Dj;rw [e];exact (put_zero _).1
   omega
 | some u =>
   have hu:=Pq m0 e
   have hk:=(TL e).1
   have hy:Dj c m=B0 u.1:=by unfold Dj;rw [e]
   have hy1:(Dj c m).1=u.1:=by rw [hy];exact KJ hu
   rw [hy1]
   rw [hg] at hk
   unfold FT C1 at e
   rw [hg] at e
   split at e
   ·rename_i hc
    cases em:HG a.1.i.p (BW c m*1048576) with
    | none=>rw [em] at e;cases e
    | some p =>
      rw [em] at e
      have e:(Bu (C3 a.1 p (BW c m))).map (fun u=>(u,decide (a.1.left - BW c m=0)))=some u:=e
      cases es:Bu (C3 a.1 p (BW c m)) with
      | none=>rw [es] at e;cases e
      | some y =>
        rw [es] at e
        cases e
        have hn:0≤BW c m:=by
         unfold BW EG
         have:=Sh hc.1
         rw [hg]
         split <;> omega
        unfold Bu at es
        cases k2:(DC (C3 a.1 p (BW c m))).right with
        | false=>rw [k2] at es;cases es
        | true =>
          rw [k2] at es
          cases es
          have q1:(DC (C3 a.1 p (BW c m))).i.p=p:=by
           unfold DC
           cases Cz (C3 a.1 p (BW c m)).left <;> rfl
          have q2:(DC (C3 a.1 p (BW c m))).left=bif decide (a.1.left - BW c m=0) then a.1.slice else a.1.left - BW c m:=by
           unfold DC
           cases Cz (C3 a.1 p (BW c m)).left <;> rfl
          refine ⟨hk,congrArg some q1.symm,by omega,hc.2.2,?_⟩
          show (DC (C3 a.1 p (BW c m))).left=_∨_
          rw [q2]
          by_cases z:a.1.left - BW c m=0
          ·exact .inr z
          ·rw [decide_eq_false z]
           exact .inl rfl
   ·cases e
end Go.Proofs.Q0
namespace Go.Proofs.Q0
open Go Go.RowKit
theorem VG {s:Ss} {c:Cs} (h:BR s c.A):∀ x∈(D6 c).A.l,x∈c.A.l:=h.Mu.sub
theorem Ws {c:Cs} {m:Int} {a:RT} (hg:C8 c.A.l c.run=a.1) (m0:0≤m) (he:ER c m=0):(Dj c m).1.slice=a.1.slice∧(Dj c m).1.left=(if a.1.left - BW c m=0 then a.1.slice else a.1.left - BW c m)∧(Ib c m).done=decide (a.1.left - BW c m=0):=by
 cases e:FT c m with
 | none =>
   have:ER c m=2:=by unfold ER Dj;rw [e];exact (put_zero _).1
   omega
 | some u =>
   have hu:=Pq m0 e
   have hy:Dj c m=B0 u.1:=by unfold Dj;rw [e]
   have hy1:(Dj c m).1=u.1:=by rw [hy];exact KJ hu
   have hp:(Ib c m).done=u.2:=by unfold Ib;rw [e]
   rw [hy1,hp]
   unfold FT C1 at e
   rw [hg] at e
   split at e
   ·rename_i hc
    cases em:HG a.1.i.p (BW c m*1048576) with
    | none=>rw [em] at e;cases e
    | some p =>
      rw [em] at e
      have e:(Bu (C3 a.1 p (BW c m))).map (fun u=>(u,decide (a.1.left - BW c m=0)))=some u:=e
      cases es:Bu (C3 a.1 p (BW c m)) with
      | none=>rw [es] at e;cases e
      | some y =>
        rw [es] at e
        cases e
        unfold Bu at es
        cases k2:(DC (C3 a.1 p (BW c m))).right with
        | false=>rw [k2] at es;cases es
        | true =>
          rw [k2] at es
          cases es
          have q1:(DC (C3 a.1 p (BW c m))).slice=a.1.slice:=by
           unfold DC
           cases Cz (C3 a.1 p (BW c m)).left <;> rfl
          have q2:(DC (C3 a.1 p (BW c m))).left=bif decide (a.1.left - BW c m=0) then a.1.slice else a.1.left - BW c m:=by
           unfold DC
           cases Cz (C3 a.1 p (BW c m)).left <;> rfl
          refine ⟨q1,?_,rfl⟩
          show (DC (C3 a.1 p (BW c m))).left=_
          rw [q2]
          by_cases z:a.1.left - BW c m=0
          ·rw [decide_eq_true z,if_pos z];rfl
          ·rw [decide_eq_false z,if_neg z];rfl
   ·cases e
theorem GQ {l:List Tk} {z:Tk}:z∈Aj l↔z.st≠0∧∃ i:Nat,l[i]?=some z:=by
 unfold Aj
 rw [List.mem_filter,List.mem_iff_getElem?]
 constructor
 ·rintro ⟨h1,h2⟩;exact ⟨by simpa using h2,h1⟩
 ·rintro ⟨h1,h2⟩;exact ⟨h2,by simpa using h1⟩
theorem PB {t:List Tk} (h:Bb 0 t) {y:Tk} {i:Nat} (hi:i < t.length) (hid:y.id=(i:Int)+1) (z:Tk):z∈Aj (t.set i y)↔(z=y∧y.st≠0)∨(z∈Aj t∧z.id≠y.id):=by
 rw [GQ,GQ]
 constructor
 ·rintro ⟨h1,j,hj⟩
  rw [List.getElem?_set] at hj
  split at hj
  ·cases hj;exact .inl ⟨rfl,h1⟩
  ·rename_i hne
   have:=(h.get hj h1).1
   exact .inr ⟨⟨h1,j,hj⟩,fun e=>hne om⟩
 ·rintro (⟨rfl,h1⟩ | ⟨⟨h1,j,hj⟩,h2⟩)
  ·exact ⟨h1,i,by rw [List.getElem?_set,if_pos rfl,if_pos hi]⟩
  ·have:=(h.get hj h1).1
   exact ⟨h1,j,by rw [List.getElem?_set,if_neg (fun e=>h2 om)];exact hj⟩
theorem Iz {t:List Tk} (h:Bb 0 t) {x y:Tk} (hx:x∈Aj t) (hid:y.id=x.id) (hy:Bd y=true) (z:Tk):z∈Aj (Et t y)↔z=y∨(z∈Aj t∧z.id≠y.id):=by
 obtain ⟨i,h1,h2,_⟩:=Hl h hx
 obtain ⟨h3,h4⟩:=Ik h1
 have e:Et t y=t.set i y:=by unfold Et;rw [hy,hid,h1];rfl
 rw [e,PB h h3 (by rw [hid];exact h4) z]
 have:=XI hy
 constructor
 ·rintro (⟨h,_⟩ | h)
  ·exact .inl h
  ·exact .inr h
 ·rintro (h | h)
  ·exact .inl ⟨h,this⟩
  ·exact .inr h
theorem cK {t:List Tk} (h:Bb 0 t) {x:Tk} (hx:x∈Aj t) (z:Tk):z∈Aj (Fl t x.id)↔z∈Aj t∧z.id≠x.id:=by
 obtain ⟨i,h1,h2,_⟩:=Hl h hx
 obtain ⟨h3,h4⟩:=Ik h1
 have e:Fl t x.id=t.set i .zero:=by unfold Fl;rw [h1]
 rw [e,GQ,GQ]
 constructor
 ·rintro ⟨k1,j,hj⟩
  rw [List.getElem?_set] at hj
  split at hj
  ·cases hj;exact absurd rfl k1
  ·rename_i hne
   have:=(h.get hj k1).1
   exact ⟨⟨k1,j,hj⟩,fun e=>hne om⟩
 ·rintro ⟨⟨k1,j,hj⟩,k2⟩
  have:=(h.get hj k1).1
  exact ⟨k1,j,by rw [List.getElem?_set,if_neg (fun e=>k2 om)];exact hj⟩
theorem Vo:∀ {l:List Tk} {i:Nat},Ds l=some i→∃ x,l[i]?=some x∧x.st=0
 | [],i,h=>by cases h
 | y :: l,i,h=>by
   unfold Ds at h
   split at h
   ·rename_i k;cases h;exact ⟨y,rfl,k⟩
   ·cases e:Ds l with
    | none=>rw [e] at h;cases h
    | some j =>
      rw [e] at h
      cases h
      obtain ⟨x,h1,h2⟩:=Vo e
      exact ⟨x,by rw [List.getElem?_cons_succ];exact h1,h2⟩
theorem OR {t:List Tk} (h:Bb 0 t) {y:Tk} (he:E9 t y=0) (z:Tk):(z∈Aj (Dp t y)↔z={ y with id:=E5 t y }∨z∈Aj t)∧(∀ u∈Aj t,u.id≠E5 t y)∧1≤E5 t y∧E5 t y≤t.length:=by
 unfold E9 at he
 unfold Dp E5
 cases hr:Bd y with
 | false=>rw [hr] at he;cases he
 | true =>
   rw [hr] at he
   cases e:Ds t with
   | none=>rw [e] at he;cases he
   | some i =>
     obtain ⟨x,h1,h2⟩:=Vo e
     have hi:=LZ e
     have hno:∀ u∈Aj t,u.id≠(i:Int)+1:=fun u hu k=>by
      obtain ⟨k1,j,hj⟩:=Gq hu
      have:=(h.get hj k1).1
      have:j=i:=by omega
      subst this
      rw [h1] at hj;cases hj;exact k1 h2
     have hy:=XI hr
     refine ⟨?_,hno,by show (1:Int)≤(i:Int)+1;omega,by show (i:Int)+1≤_;omega⟩
     show z∈Aj (t.set i { y with id:=(i:Int)+1 })↔z={ y with id:=(i:Int)+1 }∨z∈Aj t
     rw [PB h hi rfl z]
     constructor
     ·rintro (⟨h,_⟩ | h)
      ·exact .inl h
      ·exact .inr h.1
     ·rintro (h | h)
      ·exact .inl ⟨h,hy⟩
      ·exact .inr ⟨h,hno z h⟩
theorem KK {t:List Tk} (h:Bb 0 t) {x y:Tk} (hx:x∈Aj t) (hy:y∈Aj t) (e:x.id=y.id):x=y:=by
 obtain ⟨_,_,_,h1⟩:=Hl h hx
 obtain ⟨_,_,_,h2⟩:=Hl h hy
 rw [← h1,← h2,e]
theorem live_right {t:List Tk} (h:Bb 0 t) {x:Tk} (hx:x∈Aj t):Bd x=true:=by
 obtain ⟨k1,j,hj⟩:=Gq hx
 exact (h.get hj k1).2
def RJ (k:Int) (x:Tk) (a:RT):Prop:=x.id=Az a∧x.core=k∧x.st=(if a.1.asleep=true then 2 else 1)∧x.w=a.1.i.p.w∧x.slice=a.1.slice
structure Dk (t:List Tk) (k:Int) (l:List RT) (G E:List Int):Prop where
 fwd:∀ a∈l,∃ x∈Aj t,RJ k x a
 bwd:∀ x∈Aj t,BK x=true→x.core=k→x.id∉E→(∃ a∈l,Az a=x.id)∨x.id∈G
 gone:∀ i∈G,(∀ a∈l,Az a≠i)∧∃ x∈Aj t,x.id=i∧x.core=k
theorem Qw {x:Tk}:BK x=true↔x.st=1∨x.st=2:=by unfold BK;rw [Bool.or_eq_true];simp
theorem RJ.comp {k:Int} {x:Tk} {a:RT} (h:RJ k x a):BK x=true:=by
 rw [Qw,h.2.2.1]
 split
 ·exact .inr rfl
 ·exact .inl rfl
theorem Dk.other {t:List Tk} {k k':Int} {l:List RT} {G E:List Int} (h:Dk t k' l G E) (hI:Bb 0 t) {x y:Tk} (hx:x∈Aj t) (hid:y.id=x.id) (hy:Bd y=true) (sO:x.core≠k'∨(BK x=false∧x.id∉G)) (hyk:y.core≠k'∨BK y=false):Dk (Et t y) k' l G E:=by
 have L:=Iz hI hx hid hy
 refine ⟨fun a ha=>?_,fun z hz hc hk he=>?_,fun i hi=>⟨(h.gone i hi).1,?_⟩⟩
 ·obtain ⟨u,hu,ht⟩:=h.fwd a ha
  refine ⟨u,(L u).2 (.inr ⟨hu,fun e=>?_⟩),ht⟩
  have:=KK hI hu hx (by rw [e,hid])
  subst this
  rcases sO with q | ⟨q,_⟩
  ·exact q ht.2.1
  ·rw [ht.comp] at q;cases q
 ·rcases (L z).1 hz with rfl | ⟨hz,_⟩
  ·rcases hyk with q | q
   ·exact absurd hk q
   ·rw [hc] at q;cases q
  ·exact h.bwd z hz hc hk he
 ·obtain ⟨u,hu,h1,h2⟩:=(h.gone i hi).2
  refine ⟨u,(L u).2 (.inr ⟨hu,fun e=>?_⟩),h1,h2⟩
  have:=KK hI hu hx (by rw [e,hid])
  subst this
  rcases sO with q | ⟨_,q⟩
  ·exact q h2
  ·exact q (h1 ▸ hi)
theorem Dk.enter {t:List Tk} {k:Int} {l:List RT} {i:Int} {G E:List Int} (h:Dk t k l (i :: G) E) (hI:Bb 0 t) {x y:Tk} (hx:x∈Aj t) (hi:x.id=i) (hid:y.id=x.id) (hc:y.core=x.core) (hs:y.st=3):Dk (Et t y) k l G E:=by
 have hy:Bd y=true:=by unfold Bd;rw [hs];rfl
 have L:=Iz hI hx hid hy
 obtain ⟨g1,u,hu,g2,g3⟩:=h.gone i List.mem_cons_self
 obtain rfl:=KK hI hu hx (g2.trans hi.symm)
 refine ⟨fun a ha=>?_,fun z hz Qe hk he=>?_,fun j hj=>⟨(h.gone j (List.mem_cons_of_mem _ hj)).1,?_⟩⟩
 ·obtain ⟨v,hv,ht⟩:=h.fwd a ha
  exact ⟨v,(L v).2 (.inr ⟨hv,fun e=>g1 a ha (by rw [← ht.1,e,hid,g2])⟩),ht⟩
 ·rcases (L z).1 hz with rfl | ⟨hz,hn⟩
  ·rw [Qw,hs] at Qe;omega
  ·rcases h.bwd z hz Qe hk he with q | q
   ·exact .inl q
   ·rcases List.mem_cons.1 q with q | q
    ·exact absurd (by rw [q,hid,g2]) hn
    ·exact .inr q
 ·obtain ⟨v,hv,h1,h2⟩:=(h.gone j (List.mem_cons_of_mem _ hj)).2
  by_cases e:v.id=y.id
  ·exact ⟨y,(L y).2 (.inl rfl),by rw [← e];exact h1,by rw [hc];exact g3⟩
  ·exact ⟨v,(L v).2 (.inr ⟨hv,e⟩),h1,h2⟩
theorem VV (k:Int):∀ (G:List Gn) (s:Ch) (l:List RT) (E:List Int),Bb 0 s.s.t→Dk s.s.t k l (G.map Gn.id) E →
 Bb 0 (G.foldl (DN k) s).s.t∧Dk (G.foldl (DN k) s).s.t k l [] E ∧
 (∀ k' l' E',k'≠k→Dk s.s.t k' l' [] E'→Dk (G.foldl (DN k) s).s.t k' l' [] E') ∧
 (∀ z,z.id∉G.map Gn.id→(z∈Aj (G.foldl (DN k) s).s.t↔z∈Aj s.s.t)) ∧
 (∀ z∈Aj (G.foldl (DN k) s).s.t,∃ u∈Aj s.s.t,u.id=z.id∧u.core=z.core∧u.w=z.w∧u.slice=z.slice) ∧
 (∀ z∈Aj (G.foldl (DN k) s).s.t,z.id∈G.map Gn.id→z.st=3)
 | [],s,l,E,hI,h=>⟨hI,h,fun _ _ _ _ h=>h,fun _ _=>Iff.rfl,fun z hz=>⟨z,hz,rfl,rfl,rfl,rfl⟩,fun z _ hm=>by cases hm⟩
 | g :: G,s,l,E,hI,h=>by
   obtain ⟨_,x,hx,h1,h2⟩:=h.gone g.id (by simp)
   obtain ⟨i,f1,f2,f3⟩:=Hl hI hx
   rw [h1] at f3
   have hid:(Dx s.s g).id=x.id:=by show (AV s.s.t g.id).id=_;rw [f3]
   have Ju:(Dx s.s g).core=x.core:=by show (AV s.s.t g.id).core=_;rw [f3]
   have hw:(Dx s.s g).w=x.w:=by show (AV s.s.t g.id).w=_;rw [f3]
   have DR:(Dx s.s g).slice=x.slice:=by show (AV s.s.t g.id).slice=_;rw [f3]
   have hst:(Dx s.s g).st=3:=rfl
   have hr:Bd (Dx s.s g)=true:=rfl
   have L:=Iz hI hx hid hr
   have jK:Bb 0 (DN k s g).s.t:=hI.sets (Dx s.s g)
   obtain ⟨a1,a2,a3,a4,a5,a6⟩:=VV k G (DN k s g) l E jK (h.enter hI hx h1 hid Ju hst)
   refine ⟨a1,a2,fun k' l' E' hk ht=>a3 k' l' E' hk (ht.other (k:=k) hI hx hid hr (.inl (by rw [h2];exact Ne.symm hk)) (.inr (by unfold BK;rw [hst];rfl))),fun z hz=>?_,fun z hz=>?_,fun z hz hm=>?_⟩
   ·simp only [List.map_cons,List.mem_cons,not_or] at hz
    refine (a4 z hz.2).trans ((L z).trans ⟨?_,fun k => .inr ⟨k,by rw [hid,h1];exact hz.1⟩⟩)
    rintro (rfl | k)
    ·exact absurd (by rw [hid,h1]) hz.1
    ·exact k.1
   ·obtain ⟨u,hu,e1,e2,e3,e4⟩:=a5 z hz
    rcases (L u).1 hu with rfl | ⟨k,_⟩
    ·exact ⟨x,hx,by rw [← e1,hid],by rw [← e2,Ju],by rw [← e3,hw],by rw [← e4,DR]⟩
    ·exact ⟨u,k,e1,e2,e3,e4⟩
   ·by_cases q:z.id∈G.map Gn.id
    ·exact a6 z hz q
    ·have TQ:=(a4 z q).1 hz
     rcases (L z).1 TQ with rfl | ⟨_,k2⟩
     ·exact hst
     ·simp only [List.map_cons,List.mem_cons] at hm
      rcases hm with hm | hm
      ·exact absurd (by rw [hm,hid,h1]) k2
      ·exact absurd hm q
theorem Nq (s:Ch) (k:Int) (r:Rp):(Ay s k r).s=(r.g.foldl (DN k) ⟨s.s,s.ev ++ r.p.map (UW k)⟩).s:=by
 unfold Ay
 obtain ⟨e1,e2⟩:=O5 k r.p s
 rw [show r.p.foldl (GB k) s=⟨s.s,s.ev ++ r.p.map (UW k)⟩ by rw [← e1,← e2]]
theorem LW {r x:RT} {l:List RT} (ho:DD (Bx r l)) (hx:x∈Bx r l):x=r∨(x∈l∧Az x≠Az r):=by
 have h:=DL ho hx
 rw [K8] at h
 split at h
 ·cases h;exact .inl rfl
 ·rename_i hn;exact .inr ⟨(Bp h).1,hn⟩
theorem T9 (r:RT) (l:List RT):r∈Bx r l:=(Bp (by rw [K8,if_pos rfl])).1
theorem UK {r x:RT} {l:List RT} (ho:DD l) (hx:x∈l) (hn:Az x≠Az r):x∈Bx r l:=(Bp (by rw [K8,if_neg hn];exact DL ho hx)).1
theorem Qg:∀ {n:Nat} {s:Ss} {A:As},BR s A→A.l.length≤n→∀ a∈A.l,a∈(CQ n A).2.l∨Az a∈(CQ n A).1.map Gn.id
 | 0,s,A,h,hn,a,ha=>by rw [List.eq_nil_of_length_eq_zero (Nat.le_zero.1 hn)] at ha;cases ha
 | n+1,s,A,h,hn,a,ha=>by
   unfold CQ
   cases e:A.l.find? (EP A) with
   | none=>exact .inl ha
   | some b =>
     have hb:=List.mem_of_find?_eq_some e
     have hf:=DL h.o hb
     have hx:=uF hf
     have hl:=(del_perm h.o hf).length_eq
     simp only [List.length_cons] at hl
     by_cases k:Az a=Az b
     ·exact .inr (by show Az a∈Az b :: _;rw [k];exact List.mem_cons_self)
     ·rcases Qg (n:=n) (h.exit hf).2.2 (by rw [hx];omega) a (by rw [hx];exact List.mem_filter.2 ⟨ha,by simpa using k⟩) with q | q
      ·exact .inl q
      ·exact .inr (List.mem_cons_of_mem _ q)
theorem S5 {t:List Tk} {k:Int} {c1:Cs} {G E:List Int} (hR:CI c1) (h:Dk t k c1.A.l G E):Dk t k (D6 c1).A.l (G ++ (Cd c1).map Gn.id) E:=by
 obtain ⟨s,hs⟩:=hR
 have hF:=hs.Mu
 have hc:=Qg hs (Nat.le_refl _)
 refine ⟨fun a ha=>h.fwd a (hF.sub a ha),fun x hx Zm hk he=>?_,fun i hi=>?_⟩
 ·rcases h.bwd x hx Zm hk he with ⟨a,ha,e⟩ | q
  ·rcases hc a ha with q | q
   ·exact .inl ⟨a,q,e⟩
   ·exact .inr (List.mem_append_right _ (by rw [← e];exact q))
  ·exact .inr (List.mem_append_left _ q)
 ·rcases List.mem_append.1 hi with q | q
  ·exact ⟨fun a ha=>(h.gone i q).1 a (hF.sub a ha),(h.gone i q).2⟩
  ·obtain ⟨g,hg,rfl⟩:=List.mem_map.1 q
   obtain ⟨_,_,h3,h4⟩:=hF.gone g hg
   obtain ⟨a,ha,e⟩:=List.mem_map.1 h3
   obtain ⟨x,hx,ht⟩:=h.fwd a ha
   exact ⟨h4,x,hx,by rw [ht.1,e],ht.2.1⟩
theorem nG {t:List Tk} {k:Int} {l:List RT} {G E:List Int} (h:Dk t k l G E) {a r:RT} (hl:DD l) (ho:DD (Bx r l)) (ha:a∈l) (hi:Az r=Az a) (h1:r.1.asleep=a.1.asleep) (h2:r.1.i.p.w=a.1.i.p.w) (h3:r.1.slice=a.1.slice):Dk t k (Bx r l) G E:=by
 refine ⟨fun b hb=>?_,fun x hx hc hk he=>?_,fun i hi'=>⟨fun b hb e=>?_,(h.gone i hi').2⟩⟩
 ·rcases LW ho hb with rfl | ⟨hb,_⟩
  ·obtain ⟨x,hx,ht⟩:=h.fwd a ha
   exact ⟨x,hx,by rw [hi];exact ht.1,ht.2.1,by rw [h1];exact ht.2.2.1,by rw [h2];exact ht.2.2.2.1,by rw [h3];exact ht.2.2.2.2⟩
  ·exact h.fwd b hb
 ·rcases h.bwd x hx hc hk he with ⟨b,hb,e⟩ | q
  ·by_cases n:Az b=Az r
   ·exact .inl ⟨r,T9 r l,by rw [← n,e]⟩
   ·exact .inl ⟨b,UK hl hb n,e⟩
  ·exact .inr q
 ·rcases LW ho hb with rfl | ⟨hb,_⟩
  ·exact (h.gone i hi').1 a ha (by rw [← hi,e])
  ·exact (h.gone i hi').1 b hb e
theorem qY {t:List Tk} {k:Int} {l:List RT} {G E:List Int} (h:Dk t k l G E) (hI:Bb 0 t) {a r:RT} {y:Tk} (hl:DD l) (ho:DD (Bx r l)) (ha:a∈l) (hi:Az r=Az a) (hy:RJ k y r) (hr:Bd y=true):Dk (Et t y) k (Bx r l) G E:=by
 obtain ⟨x,hx,ht⟩:=h.fwd a ha
 have hid:y.id=x.id:=by rw [hy.1,hi,ht.1]
 have L:=Iz hI hx hid hr
 refine ⟨fun b hb=>?_,fun z hz hc hk he=>?_,fun i hi'=>⟨fun b hb e=>?_,?_⟩⟩
 ·rcases LW ho hb with rfl | ⟨hb,hn⟩
  ·exact ⟨y,(L y).2 (.inl rfl),hy⟩
  ·obtain ⟨u,hu,H6⟩:=h.fwd b hb
   exact ⟨u,(L u).2 (.inr ⟨hu,fun e=>hn (by rw [← H6.1,e,hy.1])⟩),H6⟩
 ·rcases (L z).1 hz with rfl | ⟨hz,hn⟩
  ·exact .inl ⟨r,T9 r l,hy.1.symm⟩
  ·rcases h.bwd z hz hc hk he with ⟨b,hb,e⟩ | q
   ·exact .inl ⟨b,UK hl hb (fun n=>hn (by rw [← e,n,hy.1])),e⟩
   ·exact .inr q
 ·rcases LW ho hb with rfl | ⟨hb,_⟩
  ·exact (h.gone i hi').1 a ha (by rw [← hi,e])
  ·exact (h.gone i hi').1 b hb e
 ·obtain ⟨v,hv,h1,h2⟩:=(h.gone i hi').2
  exact ⟨v,(L v).2 (.inr ⟨hv,fun e=>(h.gone i hi').1 a ha (by rw [← ht.1,← hid,← e,h1])⟩),h1,h2⟩
theorem Xx {t:List Tk} {k:Int} {l:List RT} {G:List Int} {id:Int} (h:Dk t k l G []):Dk t k (DZ id l) G [id]:=by
 refine ⟨fun b hb=>h.fwd b (del_sub b hb).1,fun z hz hc hk he=>?_,fun i hi=>⟨fun b hb=>(h.gone i hi).1 b (del_sub b hb).1,(h.gone i hi).2⟩⟩
 rcases h.bwd z hz hc hk (by simp) with ⟨b,hb,e⟩ | q
 ·exact .inl ⟨b,List.mem_filter.2 ⟨hb,by simp only [decide_eq_true_eq];rw [e];simpa using he⟩,e⟩
 ·exact .inr q
theorem j0 {t:List Tk} {k:Int} {l:List RT} {r:RT} {y:Tk} (h:Dk t k l [] [Az r]) (hl:DD l) (ho:DD (Bx r l)) (hn:A2 l (Az r)=none) (hy:y∈Aj t) (ht:RJ k y r):Dk t k (Bx r l) [] []:=by
 refine ⟨fun b hb=>?_,fun z hz hc hk _=>?_,fun i hi=>by cases hi⟩
 ·rcases LW ho hb with rfl | ⟨hb,_⟩
  ·exact ⟨y,hy,ht⟩
  ·exact h.fwd b hb
 ·by_cases e:z.id=Az r
  ·exact .inl ⟨r,T9 r l,e.symm⟩
  ·rcases h.bwd z hz hc hk (by simpa using e) with ⟨b,hb,q⟩ | q
   ·exact .inl ⟨b,UK hl hb (by rw [q];exact e),q⟩
   ·cases q
theorem kW {t:List Tk} {k:Int} {c:Cs} {m:Int} {G:List Int} (hR:CI c) (hI:Km c) (hr:c.run≠0) (m0:0≤m) (he:ER c m=0) (h:Dk t k c.A.l G []):Dk t k (D2 c m).A.l G []:=by
 obtain ⟨s,hs⟩:=hR
 rcases hI with ⟨h1,_⟩ | ⟨a,ha,zK,hpos,haw,_⟩
 ·exact absurd h1 hr
 have hg:C8 c.A.l c.run=a.1:=by unfold C8;rw [zK,DL hs.o ha]
 obtain ⟨s1,hs1⟩:=Pz hs m
 obtain ⟨p1,p2,_⟩:=VQ hg m0 he
 obtain ⟨f1,_,_⟩:=Ws hg m0 he
 have el:(D2 c m).A.l=Bx (Dj c m) c.A.l:=V9 he
 have DR:(Dj c m).1.asleep=a.1.asleep:=by
  cases e:FT c m with
  | none =>
    have:ER c m=2:=by unfold ER Dj;rw [e];exact (put_zero _).1
    omega
  | some u =>
    have hy:Dj c m=B0 u.1:=by unfold Dj;rw [e]
    rw [hy,KJ (Pq m0 e),(TL e).2,hg]
 rw [el]
 have ho:=hs1.o
 rw [el] at ho
 exact nG h hs.o ho ha p1 DR (at_some p2).2.1 f1
theorem VK {t:List Tk} {k:Int}:∀ (n:Nat) (left:Int) (c:Cs) (r:Rp),CI c→Km c→0≤left→left≤1099511627776→Dk t k c.A.l (r.g.map Gn.id) [] →
 Dk t k (Cy n left c r).2.1.A.l ((Cy n left c r).2.2.g.map Gn.id) []∧CI (Cy n left c r).2.1
 | 0,left,c,r,hR,_,_,_,h=>⟨h,hR⟩
 | n+1,left,c,r,hR,hI,l0,l1,h=>by
   unfold Cy
   split
   ·rename_i hc
    split
    ·rename_i he
     have hst:=srv_step (c:=c) (most:=left) ⟨l0,by omega⟩ he
     have h1:=kW hR hI hc.2 l0 he h
     have JF:=Rf hR left
     obtain ⟨s1,hs1⟩:=JF
     have h2:=S5 ⟨s1,hs1⟩ h1
     refine VK n _ _ _ (L7 ⟨s1,hs1⟩) (inv_set hs1) om om ?_
     show Dk t k _ ((r.g ++ Cd (D2 c left)).map Gn.id) []
     rw [List.map_append]
     exact h2
    ·exact ⟨h,hR⟩
   ·exact ⟨h,hR⟩
theorem cM {t:List Tk} {k:Int} {c:Cs} {ns:Int} (hR:CI c) (hI:Km c) (h:Dk t k c.A.l [] []):Dk t k (AX c ns).2.1.A.l ((AX c ns).2.2.g.map Gn.id) []∧CI (AX c ns).2.1:=by
 unfold AX
 split
 ·rename_i hc;exact VK _ ns c .none hR hI om hc.2 h
 ·exact ⟨h,hR⟩
structure KA (s:Sy) (E:Int→List Int):Prop where
 ok:Eh s
 ids:Bb 0 s.t
 rep:IP s
 inv:∀ c∈s.k,Km c
 tie:∀ k:Nat,k < s.k.length→Dk s.t k (AF s k).A.l [] (E k)
abbrev Cl (s:Sy):Prop:=KA s fun _=>[]
theorem P9 {s:Sy} {k:Nat} (hk:k < s.k.length) (c:Cs) (k':Nat):AF (BF s k c) k'=if k'=k then c else AF s k':=by
 unfold AF BF
 show (s.k.set k c).getD k' (Dw 0)=if k'=k then c else s.k.getD k' (Dw 0)
 rw [List.getD_eq_getElem?_getD,List.getD_eq_getElem?_getD,List.getElem?_set]
 by_cases e:k=k'
 ·subst e;rw [if_pos rfl,if_pos rfl,if_pos hk];rfl
 ·rw [if_neg e,if_neg (Ne.symm e)]
theorem O0 {s:Sy} {k:Nat} (hk:k < s.k.length):AF s k∈s.k:=by
 show s.k.getD k (Dw 0)∈s.k
 rw [List.getD_eq_getElem?_getD,List.getElem?_eq_getElem hk]
 exact List.getElem_mem hk
theorem Mi (s:Ch) (k:Int) (r:Rp) (h:Eh s.s) (j:Int):AF (Ay s k r).s j=AF s.s j:=by
 unfold AF
 rw [(ok_absorb h k r).2.2]
theorem inv_do {s:Sy} {t1:List Tk} {E:Int→List Int} {k:Nat} (hk:k < s.k.length) (hok:Eh { s with t:=t1 }) (aB9:Bb 0 t1) (P6:IP s) (hinv:∀ c∈s.k,Km c)
 (hoth:∀ k':Nat,k' < s.k.length→k'≠k→Dk t1 k' (AF s k').A.l [] (E k')) {c1:Cs} {r1:Rp} (hc1:CI c1) (h:Dk t1 k c1.A.l (r1.g.map Gn.id) (E k)) (ev:List Ev) (e:Int) (he:e=0) :
 KA (Ay ⟨BF { s with t:=t1 } k (Bh (AF s k) e c1),ev⟩ k (BH e c1 r1)).s E ∧
  (∀ z,z.id∉(BH e c1 r1).g.map Gn.id→(z∈Aj (Ay ⟨BF { s with t:=t1 } k (Bh (AF s k) e c1),ev⟩ k (BH e c1 r1)).s.t↔z∈Aj t1)) ∧
  (∀ z∈Aj (Ay ⟨BF { s with t:=t1 } k (Bh (AF s k) e c1),ev⟩ k (BH e c1 r1)).s.t,∃ u∈Aj t1,u.id=z.id∧u.core=z.core∧u.w=z.w∧u.slice=z.slice) ∧
  (∀ z∈Aj (Ay ⟨BF { s with t:=t1 } k (Bh (AF s k) e c1),ev⟩ k (BH e c1 r1)).s.t,z.id∈(BH e c1 r1).g.map Gn.id→z.st=3):=by
 subst he
 have h2:=S5 hc1 h
 have eC:Bh (AF s k) 0 c1=D6 c1:=if_pos rfl
 have eR:BH 0 c1 r1=⟨r1.g ++ Cd c1,r1.p⟩:=if_pos rfl
 rw [eC,eR]
 rw [← List.map_append] at h2
 have xV:Eh (BF { s with t:=t1 } k (D6 c1)):=hok.To k _
 obtain ⟨o1,o2,o3⟩:=ok_absorb (s:=⟨BF { s with t:=t1 } k (D6 c1),ev⟩) xV k ⟨r1.g ++ Cd c1,r1.p⟩
 have Ju:=Mi ⟨BF { s with t:=t1 } k (D6 c1),ev⟩ k ⟨r1.g ++ Cd c1,r1.p⟩ xV
 have et:=Nq ⟨BF { s with t:=t1 } k (D6 c1),ev⟩ k ⟨r1.g ++ Cd c1,r1.p⟩
 obtain ⟨a1,a2,a3,a4,a5,a6⟩:=VV k (r1.g ++ Cd c1) ⟨BF { s with t:=t1 } k (D6 c1),ev ++ r1.p.map (UW k)⟩ (D6 c1).A.l (E k) aB9 h2
 rw [← et] at a1 a2 a3 a4 a5 a6
 refine ⟨⟨o1,a1,fun c hc=>?_,fun c hc=>?_,fun k' hk'=>?_⟩,a4,a5,a6⟩
 ·rw [o3] at hc
  rcases List.mem_or_eq_of_mem_set hc with q | rfl
  ·exact P6 c q
  ·exact L7 hc1
 ·rw [o3] at hc
  rcases List.mem_or_eq_of_mem_set hc with q | rfl
  ·exact hinv c q
  ·obtain ⟨s',hs'⟩:=hc1;exact inv_set hs'
 ·rw [o3] at hk'
  have hk2:k' < s.k.length:=by
   have:k' < (s.k.set k (D6 c1)).length:=hk'
   rwa [List.length_set] at this
  rw [Ju,P9 (s:={ s with t:=t1 }) hk]
  by_cases q:k'=k
  ·subst q;rw [if_pos rfl];exact a2
  ·rw [if_neg q]
   exact a3 k' _ _ om (hoth k' hk2 q)
theorem aBO {m:Mn} {c q lag:Int} {p:Pt} (h:Gz m c q lag=some p):p.w=q:=by
 unfold Gz at h
 split at h
 ·split at h
  ·cases h;rfl
  ·split at h
   ·exact (at_some h).2.1
   ·cases h
 ·cases h
theorem aBQ {m:Mn} {p p':Pt} {q:Int} (h:FM m p q=some p'):p'.w=q:=by
 unfold FM at h
 split at h
 ·exact (at_some h).2.1
 ·cases h
theorem Ql {r u:Rq} (h:Bu r=some u):u.i.id=r.i.id∧u.asleep=r.asleep∧u.i.p=r.i.p∧u.slice=r.slice∧u.left=r.left:=by
 unfold Bu at h
 cases k:(DC r).right with
 | false=>rw [k] at h;cases h
 | true =>
   rw [k] at h
   cases h
   unfold DC
   cases Cz r.left <;> exact ⟨rfl,rfl,rfl,rfl,rfl⟩
theorem Uh {r:Rq} (h:¬ r.In):(B0 r).1.right=false:=by
 have e:B0 r=⟨.zero,by decide⟩:=dif_neg h
 rw [e];rfl
theorem R4 {r:Rq} {e:Int} (h:r.right=false):Fz r e=2:=by unfold Fz;rw [h];rfl
theorem wN {c:Cs} {id q ns lag:Int} (h:(Bc c id q ns lag).1=0):∃ r:RT,(Bc c id q ns lag).2.A.l=Bx r c.A.l∧Az r=id∧r.1.i.p.w=q∧r.1.slice=ns∧r.1.left=ns∧r.1.asleep=false∧A2 c.A.l id=none∧(Bc c id q ns lag).2.A=EF c.A r∧Da c.A r=0∧GX c.A q lag=some r.1.i.p:=by
 have h0:=h
 unfold Bc at h
 split at h
 ·cases h
 ·rename_i c1
  split at h
  ·cases h
  ·rename_i c2
   split at h
   ·cases h
   ·rename_i c3
    cases e:Fb c id q ns lag with
    | none=>rw [e] at h;cases h
    | some r =>
      rw [e] at h
      have h:(if Da c.A r=0 then ((0:Int),(⟨EF c.A r,c.run,DM c.carr (Bj (EF c.A r) id)⟩:Cs)) else (Da c.A r,c)).1=0:=h
      by_cases k:Da c.A r=0
      ·have eJ:Bc c id q ns lag=(0,⟨EF c.A r,c.run,DM c.carr (Bj (EF c.A r) id)⟩):=by
        unfold Bc
        rw [if_neg c1,if_neg c2,if_neg c3,e]
        exact if_pos k
       rw [eJ]
       have el:(EF c.A r).l=Bx r c.A.l:=by unfold EF;rw [if_pos k]
       have Wd:A2 c.A.l id=none:=by
        cases z:A2 c.A.l id with
        | none=>rfl
        | some _=>rw [z] at c2;exact absurd rfl c2
       unfold Fb at e
       cases e1:GX c.A q lag with
       | none=>rw [e1] at e;cases e
       | some p =>
         rw [e1] at e
         have e:(newR p id ns).map B0=some r:=e
         cases e2:newR p id ns with
         | none=>rw [e2] at e;cases e
         | some u =>
           rw [e2] at e
           have e:some (B0 u)=some r:=e
           cases e
           obtain ⟨a1,a2,a3,a4,a5⟩:=Ql e2
           by_cases hin:u.In
           ·have eu:=KJ hin
            refine ⟨B0 u,el,?_,?_,?_,?_,?_,Wd,rfl,k,?_⟩
            ·unfold Az;rw [eu];exact a1
            ·rw [eu,a3];exact aBO e1
            ·rw [eu];exact a4
            ·rw [eu];exact a5
            ·rw [eu];exact a2
            ·rw [eu,a3]
           ·unfold Da at k
            rw [R4 (Uh hin)] at k
            cases k
      ·rw [if_neg k] at h;exact absurd h k
theorem leave_ok {c:Cs} {id:Int} (h:(Ab c id).1=0):(Ab c id).2.A.l=DZ id c.A.l∧∃ a,A2 c.A.l id=some a:=by
 unfold Ab at h ⊢
 by_cases k:(A2 c.A.l id).isSome
 ·rw [if_pos k]
  cases e:A2 c.A.l id with
  | none=>rw [e] at k;cases k
  | some a =>
    refine ⟨?_,a,rfl⟩
    show (EV c.A id).l=_
    unfold EV
    rw [e];rfl
 ·rw [if_neg k] at h;cases h
theorem pO {c:Cs} {id:Int} (h:(B9 c id).1=0):∃ a,A2 c.A.l id=some a∧a.1.asleep=false∧(((CA c id).1=false∧Cq c.A id < 0∧(B9 c id).2.A.l=Bx (Gl a true) c.A.l)∨((CA c id).1=true∧¬ Cq c.A id < 0∧(CA c id).2=Bj c.A id∧(B9 c id).2.A.l=DZ id c.A.l)):=by
 have hl:=leave_ok (c:=c) (id:=id)
 unfold B9 at h ⊢
 unfold CA
 cases e:A2 c.A.l id with
 | none=>rw [e] at h;cases h
 | some a =>
   rw [e] at h
   have h:(if a.1.asleep=true then ((6:Int),c) else if Cq c.A id < 0 then (0,⟨EB c.A id true,c.run,c.carr⟩) else Ab c id).1=0:=h
   show ∃ a',some a=some a'∧a'.1.asleep=false∧(((if a.1.asleep=true then (false,(0:Int)) else if Cq c.A id < 0 then (false,Bj c.A id) else (true,Bj c.A id)).1=false∧Cq c.A id < 0∧(if a.1.asleep=true then ((6:Int),c) else if Cq c.A id < 0 then (0,⟨EB c.A id true,c.run,c.carr⟩) else Ab c id).2.A.l=Bx (Gl a' true) c.A.l)∨((if a.1.asleep=true then (false,(0:Int)) else if Cq c.A id < 0 then (false,Bj c.A id) else (true,Bj c.A id)).1=true∧¬ Cq c.A id < 0∧(if a.1.asleep=true then (false,(0:Int)) else if Cq c.A id < 0 then (false,Bj c.A id) else (true,Bj c.A id)).2=Bj c.A id∧(if a.1.asleep=true then ((6:Int),c) else if Cq c.A id < 0 then (0,⟨EB c.A id true,c.run,c.carr⟩) else Ab c id).2.A.l=DZ id c.A.l))
   by_cases k:a.1.asleep=true
   ·rw [if_pos k] at h;cases h
   ·rw [if_neg k] at h
    rw [if_neg k,if_neg k]
    refine ⟨a,rfl,by simpa using k,?_⟩
    by_cases o:Cq c.A id < 0
    ·rw [if_pos o,if_pos o]
     refine .inl ⟨rfl,o,?_⟩
     show (EB c.A id true).l=_
     unfold EB;rw [e]
    ·rw [if_neg o] at h
     rw [if_neg o,if_neg o]
     exact .inr ⟨rfl,o,rfl,(hl h).1⟩
theorem wZ {c:Cs} {id:Int} (h:(CE c id).1=0):∃ a,A2 c.A.l id=some a∧a.1.asleep=true∧(CE c id).2.A.l=Bx (Gl a false) c.A.l:=by
 unfold CE at h ⊢
 cases e:A2 c.A.l id with
 | none=>rw [e] at h;cases h
 | some a =>
   rw [e] at h
   have h:(if a.1.asleep=true then ((0:Int),(⟨EB c.A id false,c.run,c.carr⟩:Cs)) else (6,c)).1=0:=h
   show ∃ a',some a=some a'∧a'.1.asleep=true∧(if a.1.asleep=true then ((0:Int),(⟨EB c.A id false,c.run,c.carr⟩:Cs)) else (6,c)).2.A.l=_
   by_cases k:a.1.asleep=true
   ·rw [if_pos k]
    refine ⟨a,rfl,k,?_⟩
    show (EB c.A id false).l=_
    unfold EB;rw [e]
   ·rw [if_neg k] at h;cases h
theorem lQ {A:As} {y:Rq} (h:CZ A (B0 y)=0):(B0 y).1=y∧(D7 A (B0 y)).l=Bx (B0 y) A.l:=by
 refine ⟨?_,V9 h⟩
 by_cases k:y.In
 ·exact KJ k
 ·unfold CZ at h
  rw [R4 (Uh k)] at h
  cases h
theorem oR {c:Cs} {id q:Int} (h:(Be c id q).1=0):∃ a r,A2 c.A.l id=some a∧(Be c id q).2.A.l=Bx r c.A.l∧Az r=Az a∧r.1.i.p.w=q∧r.1.slice=a.1.slice∧r.1.asleep=a.1.asleep∧r.1.left=a.1.left:=by
 unfold Be at h ⊢
 by_cases c1:EN q=false
 ·rw [if_pos c1] at h;cases h
 ·rw [if_neg c1] at h ⊢
  cases e:A2 c.A.l id with
  | none=>rw [e] at h;cases h
  | some a =>
    rw [e] at h
    have h:(HA c id (Ed c.A a.1 q)).1=0:=h
    show ∃ a' r,some a=some a'∧(HA c id (Ed c.A a.1 q)).2.A.l=Bx r c.A.l∧_
    cases e2:Ed c.A a.1 q with
    | none=>rw [e2] at h;cases h
    | some y =>
      rw [e2] at h
      obtain ⟨k1,k2⟩:=lQ (show CZ c.A (B0 y)=0 from h)
      unfold Ed at e2
      cases e3:FM (mA c.A) a.1.i.p q with
      | none=>rw [e3] at e2;cases e2
      | some p =>
        rw [e3] at e2
        have e2:HS a.1 p=some y:=e2
        unfold HS at e2
        cases e4:a.1.right with
        | false=>rw [e4] at e2;cases e2
        | true =>
          rw [e4] at e2
          obtain ⟨a1,a2,a3,a4,a5⟩:=Ql (show Bu _=some y from e2)
          refine ⟨a,B0 y,rfl,k2,?_,?_,?_,?_,?_⟩
          ·unfold Az;rw [k1,a1]
          ·rw [k1,a3];exact aBQ e3
          ·rw [k1,a4]
          ·rw [k1,a2]
          ·rw [k1,a5]
theorem qD {c:Cs} {id ns:Int} (h:(Bf c id ns).1=0):∃ a r,A2 c.A.l id=some a∧(Bf c id ns).2.A.l=Bx r c.A.l∧Az r=Az a∧r.1.i.p=a.1.i.p∧r.1.slice=ns∧r.1.asleep=a.1.asleep∧r.1.left=a.1.left:=by
 unfold Bf at h ⊢
 by_cases c1:Cz ns=false
 ·rw [if_pos c1] at h;cases h
 ·rw [if_neg c1] at h ⊢
  cases e:A2 c.A.l id with
  | none=>rw [e] at h;cases h
  | some a =>
    rw [e] at h
    have h:CZ c.A (B0 ((CW a.1 ns).getD .zero))=0:=h
    show ∃ a' r,some a=some a'∧(D7 c.A (B0 ((CW a.1 ns).getD .zero))).l=Bx r c.A.l∧_
    obtain ⟨k1,k2⟩:=lQ h
    cases e2:CW a.1 ns with
    | none =>
      rw [e2] at h
      have h:CZ c.A (B0 .zero)=0:=h
      unfold CZ at h
      rw [R4 Ru] at h
      cases h
    | some y =>
      rw [e2] at k1 k2
      have k1:(B0 y).1=y:=k1
      unfold CW at e2
      cases e4:a.1.right with
      | false=>rw [e4] at e2;cases e2
      | true =>
        rw [e4] at e2
        obtain ⟨a1,a2,a3,a4,a5⟩:=Ql (show Bu _=some y from e2)
        refine ⟨a,B0 y,rfl,k2,?_,?_,?_,?_,?_⟩
        ·unfold Az;rw [k1,a1]
        ·rw [k1,a3]
        ·rw [k1,a4]
        ·rw [k1,a2]
        ·rw [k1,a5]
theorem Eh.GU {s:Sy} (h:Eh s) {x:Tk} (hx:x∈Aj s.t):∃ k:Nat,x.core=k∧k < s.k.length:=by
 obtain ⟨h1,i,hi⟩:=Gq hx
 have h2:=(h.row x (List.mem_of_getElem? hi)).core h1
 have h3:=h.len
 exact ⟨x.core.toNat,by omega,by omega⟩
theorem Eh.PL {s:Sy} (h:Eh s) {x:Tk} (hx:x∈Aj s.t):CV s.cf.cores x:=by
 obtain ⟨h1,i,hi⟩:=Gq hx
 exact h.row x (List.mem_of_getElem? hi)
def KX (k:Int) (i:Int):Int→List Int:=fun k'=>if k'=k then [i] else []
theorem RQ {s:Ch} {y:Tk} {lag:Int} (h:KA s.s (KX y.core y.id)) (hy:y∈Aj s.s.t) (kS:y.st=1) (he:(E0 s y lag).1=0):Cl (E0 s y lag).2.s:=by
 obtain ⟨k,hk,hlt⟩:=h.ok.GU hy
 unfold E0 at he ⊢
 rw [hk] at he ⊢
 unfold Dg at he ⊢
 generalize hj:Bc (AF s.s k) y.id y.w y.slice lag=J at he ⊢
 have e0:J.1=0:=by
  by_cases e:J.1=0
  ·exact e
  ·rw [if_neg e] at he;exact he
 rw [if_pos e0]
 have hR:=h.rep.at k
 have JF:CI J.2:=by rw [← hj];exact Iu hR _ _ _ _
 obtain ⟨r,j1,j2,j3,j4,_,j5,j6,_⟩:=wN (c:=AF s.s k) (id:=y.id) (q:=y.w) (ns:=y.slice) (lag:=lag) (by rw [hj];exact e0)
 rw [hj] at j1
 have hT:=h.tie k hlt
 have eE:KX y.core y.id k=[Az r]:=by unfold KX;rw [hk,if_pos rfl,j2]
 rw [eE] at hT
 obtain ⟨s1,hs1⟩:=hR
 obtain ⟨s2,hs2⟩:=JF
 have AM:=hs2.o
 rw [j1] at AM
 have ht:Dk s.s.t k J.2.A.l (Rp.none.g.map Gn.id) []:=by
  rw [j1]
  exact j0 hT hs1.o AM (by rw [j2];exact j6) hy ⟨j2.symm,hk,by rw [j5];exact kS,j3.symm,j4.symm⟩
 exact (inv_do (E:=fun _=>[]) (t1:=s.s.t) hlt h.ok h.ids h.rep h.inv (fun k' hk' hne=>by
  have:=h.tie k' hk'
  unfold KX at this
  rw [if_neg om] at this
  exact this) ⟨s2,hs2⟩ ht s.ev J.1 e0).1
theorem Pg {s:Sy} (h:Cl s) {x y:Tk} {k:Nat} (hk:x.core=k) (hx:x∈Aj s.t) (hid:y.id=x.id) (hc:y.core=x.core) (KV:Bd y=true) (Hj:CV s.cf.cores y) {J:Int × Cs} (JF:CI J.2) (e0:J.1=0) {a r:RT} (hf:A2 (AF s k).A.l x.id=some a) (hl:J.2.A.l=Bx r (AF s k).A.l) (hr:Az r=Az a) (ht:RJ k y r) (ev:List Ev) :
 Cl (Ay ⟨BF (Bk s y) k (Bh (AF s k) J.1 J.2),ev⟩ k (BH J.1 J.2 .none)).s:=by
 obtain ⟨k',hk',hlt⟩:=h.ok.GU hx
 obtain rfl:k=k':=by omega
 obtain ⟨s1,hs1⟩:=h.rep.at k
 have ho:=JF
 obtain ⟨s2,hs2⟩:=ho
 have AM:=hs2.o
 rw [hl] at AM
 refine (inv_do (E:=fun _=>[]) (t1:=Et s.t y) (r1 := .none) hlt (h.ok.Bu Hj) (h.ids.sets y) h.rep h.inv (fun k' hk2 hne=>?_) JF ?_ ev J.1 e0).1
 ·exact (h.tie k' hk2).other (k:=k) h.ids hx hid KV (.inl om) (.inl om)
 ·rw [hl]
  exact qY (h.tie k hlt) h.ids hs1.o AM (Bp hf).1 hr ht KV
theorem P5 {s:Ch} (h:Cl s.s) {x:Tk} (hx:x∈Aj s.s.t) (hc:BK x=true):KA (BO s x).2.s (KX x.core x.id)∧x∈Aj (BO s x).2.s.t:=by
 obtain ⟨k,hk,hlt⟩:=h.ok.GU hx
 unfold BO
 rw [hk]
 obtain ⟨a,ha,hai⟩:∃ a∈(AF s.s k).A.l,Az a=x.id:=by
  rcases (h.tie k hlt).bwd x hx hc hk (by simp) with q | q
  ·exact q
  ·cases q
 obtain ⟨s1,hs1⟩:=h.rep.at k
 have hf:A2 (AF s.s k).A.l x.id=some a:=by rw [← hai];exact DL hs1.o ha
 have e0:(Ab (AF s.s k) x.id).1=0:=by unfold Ab;rw [hf];rfl
 obtain ⟨l1,_⟩:=leave_ok e0
 have JF:=Fi (h.rep.at k) x.id
 have ht:Dk s.s.t k (Ab (AF s.s k) x.id).2.A.l (Rp.none.g.map Gn.id) (KX k x.id k):=by
  rw [l1]
  have:KX k x.id k=[x.id]:=if_pos rfl
  rw [this]
  exact Xx (h.tie k hlt)
 obtain ⟨i1,i2,_,_⟩:=inv_do (E:=KX k x.id) (t1:=s.s.t) (r1 := .none) hlt h.ok h.ids h.rep h.inv (fun k' hk' hne=>by
  have:=h.tie k' hk'
  unfold KX
  rw [if_neg om]
  exact this) JF ht s.ev _ e0
 refine ⟨i1,(i2 x ?_).2 hx⟩
 have hg:(BH (Ab (AF s.s k) x.id).1 (Ab (AF s.s k) x.id).2 .none).g=Cd (Ab (AF s.s k) x.id).2:=by
  unfold BH;rw [if_pos e0];rfl
 rw [hg]
 intro hm
 obtain ⟨g,hg,Zd⟩:=List.mem_map.1 hm
 obtain ⟨s3,hs3⟩:=JF
 obtain ⟨_,_,h3,_⟩:=hs3.Mu.gone g hg
 obtain ⟨b,hb,gF⟩:=List.mem_map.1 h3
 rw [l1] at hb
 exact (del_sub b hb).2 (by rw [gF,Zd])
theorem task_live {s:Sy} (h:Bb 0 s.t) {id:Int} (he:DG (BI s.t id)=0):AV s.t id∈Aj s.t∧(AV s.t id).id=id:=by
 cases e:BI s.t id with
 | none=>rw [e] at he;cases he
 | some i =>
   obtain ⟨x,h1,h2,h3⟩:=lE h e
   obtain ⟨_,_,_,h4⟩:=Hl h h1
   rw [h2] at h4
   rw [h4];exact ⟨h1,h2⟩
theorem W6 {t:List Tk} (h:Bb 0 t) {x:Tk} (hx:x∈Aj t):DG (BI t x.id)=0:=by obtain ⟨i,h1,_⟩:=Hl h hx;rw [h1];rfl
theorem inv_exit {s:Ch} (h:Cl s.s) {x:Tk} (hx:x∈Aj s.s.t):Cl (Ey s x x.id).2.s∧(Ey s x x.id).1=0:=by
 have fin:∀ (u:Sy),(∃ E,KA u E∧∀ k:Nat,∀ i∈E k,i=x.id)→x∈Aj u.t→(∀ k:Nat,x.core=k→BK x=true→k < u.k.length→∀ a∈(AF u k).A.l,Az a≠x.id)→Cl { u with t:=Fl u.t x.id }:=by
  rintro u ⟨E,hE,NJ⟩ hxu hno
  have L:=cK hE.ids hxu
  refine ⟨hE.ok.rows (Xi hE.ok.row x.id) (VW _ _),hE.ids.drop _,hE.rep,hE.inv,fun k hk=>⟨fun a ha=>?_,fun z hz hc P7 _=>?_,fun i hi=>by cases hi⟩⟩
  ·obtain ⟨y,hy,ht⟩:=(hE.tie k hk).fwd a ha
   refine ⟨y,(L y).2 ⟨hy,fun e=>?_⟩,ht⟩
   have:=KK hE.ids hy hxu e
   subst this
   exact hno k ht.2.1 ht.comp hk a ha ht.1.symm
  ·obtain ⟨hz,hn⟩:=(L z).1 hz
   exact (hE.tie k hk).bwd z hz hc P7 (fun m=>hn (NJ k _ m))
 unfold Ey
 by_cases hc:BK x=true
 ·rw [if_pos hc]
  obtain ⟨i1,i2⟩:=P5 h hx hc
  refine ⟨fin _ ⟨_,i1,fun k i hi=>?_⟩ i2 fun k hk _ hlt a ha e=>?_,W6 i1.ids i2⟩
  ·unfold KX at hi
   split at hi
   ·simpa using hi
   ·cases hi
  ·obtain ⟨k',hk',hlt'⟩:=h.ok.GU hx
   obtain rfl:k=k':=by omega
   have e0:(Ab (AF s.s k) x.id).1=0:=by
    obtain ⟨b,hb,gF⟩:∃ a∈(AF s.s k).A.l,Az a=x.id:=by
     rcases (h.tie k hlt').bwd x hx hc hk (by simp) with q | q
     ·exact q
     ·cases q
    obtain ⟨s1,hs1⟩:=h.rep.at k
    unfold Ab
    rw [← gF,DL hs1.o hb];rfl
   have Ju:AF (BO s x).2.s k=D6 (Ab (AF s.s k) x.id).2:=by
    unfold BO
    rw [hk]
    show AF (Ay _ _ _).s k=_
    rw [Mi _ _ _ (h.ok.To _ _)]
    show AF (BF s.s k _) k=_
    rw [P9 hlt',if_pos rfl]
    exact if_pos e0
   rw [Ju] at ha
   obtain ⟨s3,hs3⟩:=Fi (h.rep.at k) x.id
   have:=VG hs3 a ha
   rw [(leave_ok e0).1] at this
   exact (del_sub a this).2 e
 ·rw [if_neg hc]
  exact ⟨fin s.s ⟨_,h,fun k i hi=>by cases hi⟩ hx fun k hk Zm=>absurd Zm hc,W6 h.ids hx⟩
theorem LJ (x:Int):Fk (IntKind.u32.wrap x):=by rw [wrap_u32];unfold Fk;omega
theorem tied_of {s:Sy} {E:Int→List Int} (h:KA s E) {x:Tk} (hx:x∈Aj s.t) {k:Nat} (hlt:k < s.k.length) {a:RT} (ha:a∈(AF s k).A.l) (e:Az a=x.id):RJ k x a:=by
 obtain ⟨u,hu,ht⟩:=(h.tie k hlt).fwd a ha
 have:=KK h.ids hu hx (by rw [ht.1,e])
 subst this
 exact ht
theorem no_req {s:Sy} {E:Int→List Int} (h:KA s E) {x:Tk} (hx:x∈Aj s.t) (hc:BK x=false):∀ k:Nat,k < s.k.length→∀ a∈(AF s k).A.l,Az a≠x.id:=fun k hlt a ha e=>by
 have:=(tied_of h hx hlt ha e).comp
 rw [hc] at this;cases this
theorem Qo {s:Sy} {E:Int→List Int} (h:KA s E) {x y:Tk} (hx:x∈Aj s.t) (hid:y.id=x.id) (KV:Bd y=true) (Hj:CV s.cf.cores y) (hE:∀ k:Nat,∀ i∈E k,i=x.id) (hno:∀ k:Nat,k < s.k.length→∀ a∈(AF s k).A.l,Az a≠x.id):KA (Bk s y) (KX y.core y.id)∧y∈Aj (Bk s y).t:=by
 have L:=Iz h.ids hx hid KV
 refine ⟨⟨h.ok.Bu Hj,h.ids.sets y,h.rep,h.inv,fun k hk=>⟨fun a ha=>?_,fun z hz hc P7 he=>?_,fun i hi=>by cases hi⟩⟩,(L y).2 (.inl rfl)⟩
 ·obtain ⟨u,hu,ht⟩:=(h.tie k hk).fwd a ha
  exact ⟨u,(L u).2 (.inr ⟨hu,fun e=>hno k hk a ha (by rw [← ht.1,e,hid])⟩),ht⟩
 ·rcases (L z).1 hz with rfl | ⟨hz,hn⟩
  ·unfold KX at he
   rw [if_pos P7.symm] at he
   exact absurd (by simp) he
  ·exact (h.tie k hk).bwd z hz hc P7 (fun m=>hn (by rw [hE k _ m,hid]))
theorem Xy {s:Sy} {k i:Int} (h:KA s (KX k i)) {y:Tk} (hy:y∈Aj s.t) (e:y.id=i) (hc:BK y=false):Cl s :=
 ⟨h.ok,h.ids,h.rep,h.inv,fun k' hk=>⟨(h.tie k' hk).fwd,fun z hz Qe P7 _=>(h.tie k' hk).bwd z hz Qe P7 (fun m=>by
  unfold KX at m
  split at m
  ·have:z.id=i:=by simpa using m
   have:=KK h.ids hz hy (this.trans e.symm)
   subst this
   rw [hc] at Qe;cases Qe
  ·cases m),(h.tie k' hk).gone⟩⟩
theorem inv_plain {s:Sy} (h:Cl s) {x y:Tk} (hx:x∈Aj s.t) (hid:y.id=x.id) (KV:Bd y=true) (Hj:CV s.cf.cores y) (hc:BK x=false) (sG:BK y=false):Cl (Bk s y)∧y∈Aj (Bk s y).t:=by
 obtain ⟨a,b⟩:=Qo h hx hid KV Hj (fun k i hi=>by cases hi) (no_req h hx hc)
 exact ⟨Xy a b rfl sG,b⟩
theorem leave_no {s:Ch} (h:Cl s.s) {x:Tk} (hx:x∈Aj s.s.t) (hc:BK x=true):∀ k:Nat,k < (BO s x).2.s.k.length→∀ a∈(AF (BO s x).2.s k).A.l,Az a≠x.id:=fun k hlt a ha e=>by
 obtain ⟨i1,i2⟩:=P5 h hx hc
 have ht:=tied_of i1 i2 hlt ha e
 obtain ⟨k',hk',hlt'⟩:=h.ok.GU hx
 obtain rfl:k=k':=by have:=ht.2.1;omega
 have e0:(Ab (AF s.s k) x.id).1=0:=by
  obtain ⟨b,hb,gF⟩:∃ a∈(AF s.s k).A.l,Az a=x.id:=by
   rcases (h.tie k hlt').bwd x hx hc hk' (by simp) with q | q
   ·exact q
   ·cases q
  obtain ⟨s1,hs1⟩:=h.rep.at k
  unfold Ab
  rw [← gF,DL hs1.o hb];rfl
 have Ju:AF (BO s x).2.s k=D6 (Ab (AF s.s k) x.id).2:=by
  unfold BO
  rw [hk']
  show AF (Ay _ _ _).s k=_
  rw [Mi _ _ _ (h.ok.To _ _)]
  show AF (BF s.s k _) k=_
  rw [P9 hlt',if_pos rfl]
  exact if_pos e0
 rw [Ju] at ha
 obtain ⟨s3,hs3⟩:=Fi (h.rep.at k) x.id
 have:=VG hs3 a ha
 rw [(leave_ok e0).1] at this
 exact (del_sub a this).2 e
theorem aI {s:Sy} {E:Int→List Int} (h:KA s E) {x:Tk} (hx:x∈Aj s.t):x.st=1∨x.st=2∨x.st=3:=by
 have:=live_right h.ids hx
 unfold Bd at this
 rw [Bool.and_eq_true,decide_eq_true_iff,decide_eq_true_iff] at this
 omega
theorem VI (s:Ch) (x:Tk) (id:Int):(ES s x id).core=x.core:=by
 show (if (CA (AF s.s x.core) id).1=true then { x with st:=3,lag:=Fa s.s.cf (CA (AF s.s x.core) id).2 x.slice } else { x with st:=2 }:Tk).core=_
 split <;> rfl
theorem mC (s:Ch) (x:Tk) (id:Int):(ES s x id).id=x.id:=by
 show (if (CA (AF s.s x.core) id).1=true then { x with st:=3,lag:=Fa s.s.cf (CA (AF s.s x.core) id).2 x.slice } else { x with st:=2 }:Tk).id=_
 split <;> rfl
theorem gX (s:Ch) (x:Tk) (id:Int):(ES s x id).slice=x.slice:=by
 show (if (CA (AF s.s x.core) id).1=true then { x with st:=3,lag:=Fa s.s.cf (CA (AF s.s x.core) id).2 x.slice } else { x with st:=2 }:Tk).slice=_
 split <;> rfl
theorem kP {s:Ch} (h:Cl s.s) {x:Tk} (hx:x∈Aj s.s.t) (he:(GA s x x.id).1=0):Cl (GA s x x.id).2.s:=by
 unfold GA at he ⊢
 by_cases c1:x.st≠1
 ·rw [if_pos c1] at he;cases he
 rw [if_neg c1] at he ⊢
 have kS:x.st=1:=by omega
 obtain ⟨k,hk,hlt⟩:=h.ok.GU hx
 unfold Df at he ⊢
 have kN:(ES s x x.id).core=x.core:=VI _ _ _
 have Za:(ES s x x.id).id=x.id:=mC _ _ _
 have Wk:ES s x x.id=if (CA (AF s.s k) x.id).1=true then { x with st:=3,lag:=Fa s.s.cf (CA (AF s.s k) x.id).2 x.slice } else { x with st:=2 }:=by unfold ES;rw [hk]
 rw [kN,hk] at he ⊢
 generalize ES s x x.id=y at *
 by_cases e0:(B9 (AF s.s k) x.id).1=0
 ·rw [if_pos e0]
  obtain ⟨a,hf,haw,hcs⟩:=pO e0
  have JF:=Kz (h.rep.at k) x.id
  obtain ⟨ha,hai⟩:=Bp hf
  have ht:=tied_of h hx hlt ha hai
  have hro:=h.ok.PL hx
  rcases hcs with ⟨q1,_,q2⟩ | ⟨q1,_,_,q2⟩
  ·rw [q1] at Wk
   have Wk:y={ x with st:=2 }:=Wk
   subst Wk
   exact Pg h hk hx (y:={ x with st:=2 }) rfl rfl rfl (hro.st om om) JF e0 hf q2 rfl ⟨ht.1,ht.2.1,rfl,ht.2.2.2.1,ht.2.2.2.2⟩ s.ev
  ·rw [q1,if_pos rfl] at Wk
   have Hj:CV s.s.cf.cores y:=by
    rw [Wk]
    exact ⟨hro.1,(by decide:(0:Int)≤3∧(3:Int) < 256),hro.2.2.1,hro.2.2.2.1,hro.2.2.2.2.1,Lh _ _ _,fun _=>hro.core om⟩
   have hys:y.st=3:=by rw [Wk]
   have KV:Bd y=true:=by unfold Bd;rw [hys];rfl
   have sG:BK y=false:=by unfold BK;rw [hys];rfl
   refine (inv_do (E:=fun _=>[]) (t1:=Et s.s.t y) (r1 := .none) hlt (h.ok.Bu Hj) (h.ids.sets y) h.rep h.inv (fun k' hk2 hne=>?_) JF ?_ s.ev _ e0).1
   ·exact (h.tie k' hk2).other (k:=k) h.ids hx Za KV (.inl om) (.inr sG)
   ·rw [q2]
    have L:=Iz h.ids hx Za KV
    have hd:=Xx (id:=x.id) (h.tie k hlt)
    refine ⟨fun b hb=>?_,fun z hz Qe P7 _=>?_,fun i hi=>by cases hi⟩
    ·obtain ⟨u,hu,hut⟩:=hd.fwd b hb
     exact ⟨u,(L u).2 (.inr ⟨hu,fun e=>(del_sub b hb).2 (by rw [← hut.1,e,Za])⟩),hut⟩
    ·rcases (L z).1 hz with rfl | ⟨hz,hn⟩
     ·rw [sG] at Qe;cases Qe
     ·exact hd.bwd z hz Qe P7 (by rw [← Za];simpa using hn)
 ·rw [if_neg e0] at he;exact absurd he e0
theorem oK {s:Ch} (h:Cl s.s) {x:Tk} (hx:x∈Aj s.s.t) (he:(EX s x x.id).1=0):Cl (EX s x x.id).2.s:=by
 have hro:=h.ok.PL hx
 have hst:=aI h hx
 obtain ⟨k,hk,hlt⟩:=h.ok.GU hx
 have Hj:CV s.s.cf.cores { x with st:=1 }:=hro.st om om
 unfold EX at he ⊢
 by_cases c1:x.st=1
 ·rw [if_pos c1] at he;cases he
 rw [if_neg c1] at he ⊢
 by_cases c3:x.st=3
 ·rw [if_pos c3] at he ⊢
  obtain ⟨i1,i2⟩:=Qo h hx (y:={ x with st:=1 }) rfl rfl Hj (fun k i hi=>by cases hi) (no_req h hx (by unfold BK;rw [c3];rfl))
  exact RQ (s:=⟨Bk s.s { x with st:=1 },s.ev⟩) i1 i2 rfl he
 ·rw [if_neg c3] at he ⊢
  unfold Df at he ⊢
  have e:({ x with st:=1 }:Tk).core=x.core:=rfl
  rw [e,hk] at he ⊢
  by_cases e0:(CE (AF s.s k) x.id).1=0
  ·rw [if_pos e0]
   obtain ⟨a,hf,haw,q2⟩:=wZ e0
   obtain ⟨ha,hai⟩:=Bp hf
   have ht:=tied_of h hx hlt ha hai
   exact Pg h hk hx (y:={ x with st:=1,core:=(k:Int) }) rfl hk.symm rfl (by rw [← hk];exact Hj) (MD (h.rep.at k) x.id) e0 hf q2 rfl ⟨ht.1,rfl,rfl,ht.2.2.2.1,ht.2.2.2.2⟩ s.ev
  ·rw [if_neg e0] at he;exact absurd he e0
theorem cQ {s:Ch} (h:Cl s.s) {x:Tk} (hx:x∈Aj s.s.t) {w:Int} (he:(DQ s x x.id w).1=0):Cl (DQ s x x.id w).2.s:=by
 have hro:=h.ok.PL hx
 obtain ⟨k,hk,hlt⟩:=h.ok.GU hx
 have hw:Fk (IntKind.u32.wrap w):=LJ _
 have Hj:CV s.s.cf.cores { x with w:=IntKind.u32.wrap w }:=⟨hro.1,hro.2.1,hro.2.2.1,hw,hro.2.2.2.2.1,hro.2.2.2.2.2.1,hro.2.2.2.2.2.2⟩
 have KV:Bd { x with w:=IntKind.u32.wrap w }=true:=(live_right h.ids hx:Bd x=true)
 unfold DQ at he ⊢
 by_cases c1:Ar w 1048576≠0
 ·rw [if_pos c1] at he;exact absurd he c1
 rw [if_neg c1] at he ⊢
 cases hc:BK x with
 | false =>
   rw [if_pos rfl]
   exact (inv_plain h hx (y:={ x with w:=IntKind.u32.wrap w }) rfl KV Hj hc hc).1
 | true =>
   rw [hc,if_neg (by simp)] at he
   rw [if_neg (by simp)]
   unfold Dg at he ⊢
   rw [hk] at he ⊢
   by_cases e0:(Be (AF s.s k) x.id (IntKind.u32.wrap w)).1=0
   ·rw [if_pos e0]
    obtain ⟨a,r,hf,q2,q3,q4,q5,q6,_⟩:=oR e0
    obtain ⟨ha,hai⟩:=Bp hf
    have ht:=tied_of h hx hlt ha hai
    exact Pg h hk hx (y:={ x with w:=IntKind.u32.wrap w,core:=(k:Int) }) rfl hk.symm KV (by rw [← hk];exact Hj) (Kw (h.rep.at k) x.id _) e0 hf q2 q3 ⟨by rw [q3];exact ht.1,rfl,by rw [q6];exact ht.2.2.1,q4.symm,by rw [q5];exact ht.2.2.2.2⟩ s.ev
   ·rw [if_neg e0] at he;exact absurd he e0
theorem lX {s:Ch} (h:Cl s.s) {x:Tk} (hx:x∈Aj s.s.t) {ns:Int} (Du:BL ns) (he:(Dy s x x.id ns).1=0):Cl (Dy s x x.id ns).2.s:=by
 have hro:=h.ok.PL hx
 obtain ⟨k,hk,hlt⟩:=h.ok.GU hx
 have Hj:CV s.s.cf.cores { x with slice:=ns }:=⟨hro.1,hro.2.1,hro.2.2.1,hro.2.2.2.1,Du,hro.2.2.2.2.2.1,hro.2.2.2.2.2.2⟩
 have KV:Bd { x with slice:=ns }=true:=(live_right h.ids hx:Bd x=true)
 unfold Dy at he ⊢
 by_cases c1:Ar ns (DO s.s.cf.slice)≠0
 ·rw [if_pos c1] at he;exact absurd he c1
 rw [if_neg c1] at he ⊢
 cases hc:BK x with
 | false =>
   rw [if_pos rfl]
   exact (inv_plain h hx (y:={ x with slice:=ns }) rfl KV Hj hc hc).1
 | true =>
   rw [hc,if_neg (by simp)] at he
   rw [if_neg (by simp)]
   unfold Dg at he ⊢
   rw [hk] at he ⊢
   by_cases e0:(Bf (AF s.s k) x.id ns).1=0
   ·rw [if_pos e0]
    obtain ⟨a,r,hf,q2,q3,q4,q5,q6,_⟩:=qD e0
    obtain ⟨ha,hai⟩:=Bp hf
    have ht:=tied_of h hx hlt ha hai
    exact Pg h hk hx (y:={ x with slice:=ns,core:=(k:Int) }) rfl hk.symm KV (by rw [← hk];exact Hj) (LH (h.rep.at k) x.id ns) e0 hf q2 q3 ⟨by rw [q3];exact ht.1,rfl,by rw [q6];exact ht.2.2.1,by rw [q4];exact ht.2.2.2.1,q5.symm⟩ s.ev
   ·rw [if_neg e0] at he;exact absurd he e0
theorem leave_cf (s:Ch) (h:Eh s.s) (x:Tk):(BO s x).2.s.cf=s.s.cf:=(ok_leave h x).2
theorem leave_in (s:Ch) (x:Tk):In64 (BO s x).1:=Lh _ _ _
def Eo (u:Ch) (x:Tk) (core lag:Int):Int × Ch:=if (Dz x core lag).st=1 then E0 ⟨Bk u.s (Dz x core lag),u.ev⟩ (Dz x core lag) (Dz x core lag).lag else (0,⟨Bk u.s (Dz x core lag),u.ev⟩)
theorem HD {s:Ch} {x:Tk} {core:Int} (c1:Ci s.s.cf core≠0∨core=x.core):CU s x core=(Ci s.s.cf core,s):=if_pos c1
theorem IJ {s:Ch} {x:Tk} {core:Int} (c1:¬ (Ci s.s.cf core≠0∨core=x.core)):CU s x core=if BK x=true then Eo (BO s x).2 x core (BO s x).1 else Eo s x core x.lag:=by
 unfold CU
 rw [if_neg c1]
 show Eo (if BK x=true then BO s x else (x.lag,s)).2 x core (if BK x=true then BO s x else (x.lag,s)).1=_
 split <;> rfl
theorem JO {s:Ch} {core w ns:Int} (c:DV s.s core w ns≠0):B8 s core w ns=(DV s.s core w ns,0,s):=if_pos c
theorem Jp {s:Ch} {core w ns:Int} (c1:¬ DV s.s core w ns≠0) (c:E9 s.s.t (BU core w ns)≠0):B8 s core w ns=(E9 s.s.t (BU core w ns),0,s):=by unfold B8;rw [if_neg c1,if_pos c]
def Gv (s:Ch) (core w ns:Int):Int × Ch:=E0 ⟨{ s.s with t:=Dp s.s.t (BU core w ns) },s.ev⟩ { BU core w ns with id:=E5 s.s.t (BU core w ns) } 0
theorem Lp {s:Ch} {core w ns:Int} (c1:¬ DV s.s core w ns≠0) (c:¬ E9 s.s.t (BU core w ns)≠0):B8 s core w ns=if (Gv s core w ns).1=0 then (0,E5 s.s.t (BU core w ns),(Gv s core w ns).2) else ((Gv s core w ns).1,0,s):=by unfold B8;rw [if_neg c1,if_neg c];rfl
theorem Yb {s:Ch} (h:Cl s.s) {x:Tk} (hx:x∈Aj s.s.t) {core:Int} (GK:In64 core) (he:(CU s x core).1=0):Cl (CU s x core).2.s:=by
 have hro:=h.ok.PL hx
 have hst:=aI h hx
 by_cases c1:Ci s.s.cf core≠0∨core=x.core
 ·rw [HD c1];exact h
 rw [IJ c1] at he ⊢
 have hc0:0≤core∧core < s.s.cf.cores:=by
  have:Ci s.s.cf core=0:=by
   rcases Classical.em (Ci s.s.cf core=0) with q | q
   ·exact q
   ·exact absurd (.inl q) c1
  unfold Ci at this
  split at this
  ·cases this
  ·omega
 have fin:∀ (u:Ch) (lag:Int),In64 lag→(∃ E,KA u.s E∧∀ k:Nat,∀ i∈E k,i=x.id)→u.s.cf=s.s.cf→x∈Aj u.s.t→(∀ k:Nat,k < u.s.k.length→∀ a∈(AF u.s k).A.l,Az a≠x.id) →
  (Eo u x core lag).1=0→Cl (Eo u x core lag).2.s:=by
  rintro u lag IU ⟨E,hE,NJ⟩ zQ hxu hno hq
  unfold Eo at hq ⊢
  have hms:(Dz x core lag).st=if x.st=2 then 3 else x.st:=rfl
  have Hj:CV u.s.cf.cores (Dz x core lag):=by
   rw [zQ]
   refine ⟨hro.1,?_,GK,hro.2.2.2.1,hro.2.2.2.2.1,IU,fun _=>hc0⟩
   rw [hms];split <;> omega
  have KV:Bd (Dz x core lag)=true:=by
   unfold Bd
   rw [hms,Bool.and_eq_true,decide_eq_true_iff,decide_eq_true_iff]
   split <;> omega
  obtain ⟨i1,i2⟩:=Qo hE hxu (y:=Dz x core lag) rfl KV Hj NJ hno
  by_cases c2:(Dz x core lag).st=1
  ·rw [if_pos c2] at hq ⊢
   exact RQ (s:=⟨Bk u.s (Dz x core lag),u.ev⟩) i1 i2 c2 hq
  ·rw [if_neg c2]
   refine Xy i1 i2 rfl ?_
   cases iQ:BK (Dz x core lag) with
   | false=>rfl
   | true =>
     rw [Qw] at iQ
     rw [hms] at iQ c2
     split at iQ <;> split at c2 <;> omega
 cases hc:BK x with
 | true =>
   rw [hc,if_pos rfl] at he
   rw [if_pos rfl]
   obtain ⟨i1,i2⟩:=P5 h hx hc
   refine fin (BO s x).2 (BO s x).1 (leave_in s x) ⟨_,i1,fun k i hi=>?_⟩ (leave_cf s h.ok x) i2 (leave_no h hx hc) he
   unfold KX at hi
   split at hi
   ·simpa using hi
   ·cases hi
 | false =>
   rw [hc,if_neg (by simp)] at he
   rw [if_neg (by simp)]
   exact fin s x.lag hro.2.2.2.2.2.1 ⟨_,h,fun k i hi=>by cases hi⟩ rfl hx (no_req h hx hc) he
theorem gT {s:Ch} (h:Cl s.s) {core w ns:Int} (GK:In64 core) (Du:BL ns) (he:(B8 s core w ns).1=0):Cl (B8 s core w ns).2.2.s:=by
 by_cases c1:DV s.s core w ns≠0
 ·rw [JO c1] at he;exact absurd he c1
 by_cases c2:E9 s.s.t (BU core w ns)≠0
 ·rw [Jp c1 c2] at he;exact absurd he c2
 rw [Lp c1 c2] at he ⊢
 have Wd:E9 s.s.t (BU core w ns)=0:=by
  rcases Classical.em (E9 s.s.t (BU core w ns)=0) with q | q
  ·exact q
  ·exact absurd q c2
 have hc0:0≤core∧core < s.s.cf.cores:=by
  have q:DV s.s core w ns=0:=by
   rcases Classical.em (DV s.s core w ns=0) with q | q
   ·exact q
   ·exact absurd q c1
  unfold DV GR Ci at q
  by_cases k:core < 0∨core≥s.s.cf.cores
  ·rw [if_pos k] at q;cases q
  ·omega
 have Hj:CV s.s.cf.cores (BU core w ns):=⟨(by decide:In64 0),(by decide:(0:Int)≤1∧(1:Int) < 256),GK,LJ _,Du,(by decide:In64 0),fun _=>hc0⟩
 have L:=fun z=>(OR h.ids Wd z).1
 obtain ⟨_,hno,Lx,hn2⟩:=OR h.ids Wd (BU core w ns)
 have eJ:Gv s core w ns=E0 ⟨{ s.s with t:=Dp s.s.t (BU core w ns) },s.ev⟩ { BU core w ns with id:=E5 s.s.t (BU core w ns) } 0:=rfl
 generalize hn:E5 s.s.t (BU core w ns)=n at *
 have VN:=h.ids.add (BU core w ns)
 have aB8:Eh { s.s with t:=Dp s.s.t (BU core w ns) }:=h.ok.rows (ZP h.ok.row h.ok.tl Hj) (Xb _ _)
 generalize Gv s core w ns=J at *
 have hj:E0 ⟨{ s.s with t:=Dp s.s.t (BU core w ns) },s.ev⟩ { BU core w ns with id:=n } 0=J:=eJ.symm
 have e0:J.1=0:=by
  by_cases e:J.1=0
  ·exact e
  ·rw [if_neg e] at he;exact he
 rw [if_pos e0]
 have hi:KA { s.s with t:=Dp s.s.t (BU core w ns) } (KX core n):=⟨aB8,VN,h.rep,h.inv,fun k hk=>⟨fun a ha=>?_,fun z hz hc P7 zH=>?_,fun i hi=>by cases hi⟩⟩
 ·have:=RQ (s:=⟨{ s.s with t:=Dp s.s.t (BU core w ns) },s.ev⟩) (y:={ BU core w ns with id:=n }) (lag:=0) hi ((L _).2 (.inl rfl)) rfl (by rw [hj];exact e0)
  rw [hj] at this
  exact this
 ·obtain ⟨u,hu,ht⟩:=(h.tie k hk).fwd a ha
  exact ⟨u,(L u).2 (.inr hu),ht⟩
 ·rcases (L z).1 hz with rfl | hz
  ·have aBc:(k:Int)=core:=P7.symm
   unfold KX at zH
   rw [if_pos aBc] at zH
   exact absurd (List.mem_singleton.2 rfl) zH
  ·exact (h.tie k hk).bwd z hz hc P7 (by simp)
theorem U3 {ns:Int} (Du:0≤ns):∀ (n k:Nat) (s:Ch),Cl s.s→k+n=s.s.k.length→(DI n k s ns).1=0→Cl (DI n k s ns).2.s
 | 0,k,s,h,_,_=>h
 | n+1,k,s,h,hk,he=>by
   unfold DI at he ⊢
   by_cases e0:(AX (AF s.s k) ns).1=0
   ·have Uu:(AX (AF s.s k) ns).fst=0:=e0
    rw [if_pos Uu] at he
    rw [if_pos Uu]
    obtain ⟨t1,t2⟩:=cM (h.rep.at k) (h.inv (AF s.s k) (O0 (show k < s.s.k.length by omega))) (ns:=ns) (h.tie k om)
    have i1:=(inv_do (E:=fun _=>[]) (s:=s.s) (t1:=s.s.t) (k:=k) (show k < s.s.k.length by omega) h.ok h.ids h.rep h.inv (fun k' hk' _=>h.tie k' hk') t2 t1 s.ev _ e0).1
    refine U3 Du n (k+1) _ i1 ?_ he
    rw [(ok_absorb (s:=⟨BF s.s k _,s.ev⟩) (h.ok.To _ _) _ _).2.2]
    show k+1+n=(s.s.k.set _ _).length
    rw [List.length_set];omega
   ·have Uu:¬ (AX (AF s.s k) ns).fst=0:=e0
    rw [if_neg Uu] at he
    exact absurd he e0
theorem KI {s:Ch} (h:Cl s.s) (id:Int) (f:Ch→Tk→Int × Ch) (hf:∀ x∈Aj s.s.t,x.id=id→(f s x).1=0→Cl (f s x).2.s) (he:(CG s id f).1=0):Cl (CG s id f).2.s:=by
 unfold CG at he ⊢
 by_cases c:DG (BI s.s.t id)≠0
 ·rw [if_pos c] at he;exact absurd he c
 ·rw [if_neg c] at he ⊢
  obtain ⟨h1,h2⟩:=task_live h.ids (id:=id) (by
   rcases Classical.em (DG (BI s.s.t id)=0) with q | q
   ·exact q
   ·exact absurd q c)
  exact hf _ h1 h2 he
theorem vN {s:Sy} (h:Cl s) {a:CR} (ha:a.In) (he:(CS s a).1=0):Cl (CS s a).2.s:=by
 unfold CS at he ⊢
 by_cases c1:a.d % 12 < 2
 ·rw [if_pos c1] at he ⊢;exact gT (s:=⟨s,[]⟩) h ha.2.2.1 ha.2.2.2.2 he
 rw [if_neg c1] at he ⊢
 by_cases c2:a.d % 12=2
 ·rw [if_pos c2] at he ⊢;exact KI (s:=⟨s,[]⟩) h a.id _ (fun x hx e k=>by rw [← e];exact (inv_exit (s:=⟨s,[]⟩) h hx).1) he
 rw [if_neg c2] at he ⊢
 by_cases c3:a.d % 12 < 5
 ·rw [if_pos c3] at he ⊢;exact KI (s:=⟨s,[]⟩) h a.id _ (fun x hx e k=>by rw [← e] at k ⊢;exact kP (s:=⟨s,[]⟩) h hx k) he
 rw [if_neg c3] at he ⊢
 by_cases c4:a.d % 12 < 7
 ·rw [if_pos c4] at he ⊢;exact KI (s:=⟨s,[]⟩) h a.id _ (fun x hx e k=>by rw [← e] at k ⊢;exact oK (s:=⟨s,[]⟩) h hx k) he
 rw [if_neg c4] at he ⊢
 by_cases c5:a.d % 12=7
 ·rw [if_pos c5] at he ⊢;exact KI (s:=⟨s,[]⟩) h a.id _ (fun x hx e k=>by rw [← e] at k ⊢;exact cQ (s:=⟨s,[]⟩) h hx k) he
 rw [if_neg c5] at he ⊢
 by_cases c6:a.d % 12=8
 ·rw [if_pos c6] at he ⊢;exact KI (s:=⟨s,[]⟩) h a.id _ (fun x hx e k=>by rw [← e] at k ⊢;exact lX (s:=⟨s,[]⟩) h hx ha.2.2.2.2 k) he
 rw [if_neg c6] at he ⊢
 by_cases c7:a.d % 12=9
 ·rw [if_pos c7] at he ⊢;exact KI (s:=⟨s,[]⟩) h a.id _ (fun x hx e k=>Yb (s:=⟨s,[]⟩) h hx ha.2.2.1 k) he
 rw [if_neg c7] at he ⊢
 unfold Ek at he ⊢
 by_cases c8:Ar a.ns (DO s.cf.tick)≠0
 ·have yO:Ar a.ns (DO (Ch.s ⟨s,[]⟩).cf.tick)≠0:=c8
  rw [if_pos yO] at he;exact absurd he c8
 ·have yO:¬ Ar a.ns (DO (Ch.s ⟨s,[]⟩).cf.tick)≠0:=c8
  rw [if_neg yO] at he ⊢
  exact U3 ha.2.2.2.2.1 _ 0 ⟨s,[]⟩ h (Nat.zero_add _) he
def Vb (m:Int) (l:List RT):Prop:=∀ a∈l,m≤a.1.slice
def aAO (m:Int) (a:RT):Bool:=decide (a.1.left < m)
def under (m:Int) (l:List RT):Nat:=(l.filter (aAO m)).length
theorem TG {m:Int} {l l':List RT} (p:l.Perm l'):under m l=under m l':=(p.filter _).length_eq
theorem TD (m:Int) (a:RT) (l:List RT):under m (a :: l)=(if a.1.left < m then 1 else 0)+under m l:=by
 unfold under
 rw [List.filter_cons]
 unfold aAO
 by_cases h:a.1.left < m
 ·rw [if_pos (decide_eq_true h),if_pos h,List.length_cons,Nat.add_comm]
 ·rw [if_neg (by simpa using h),if_neg h,Nat.zero_add]
theorem iU {m:Int} {l l':List RT} (h:l.Sublist l'):under m l≤under m l':=(h.filter _).length_le
theorem oQ (m:Int) (l:List RT):under m l≤l.length:=List.length_filter_le _ _
theorem ext_sub (A:As) (id:Int):(EV A id).l.Sublist A.l:=by
 unfold EV
 split
 ·exact List.filter_sublist
 ·exact List.Sublist.refl _
theorem SD:∀ (n:Nat) (A:As),(CQ n A).2.l.Sublist A.l
 | 0,A=>List.Sublist.refl _
 | n+1,A=>by
   unfold CQ
   cases A.l.find? (EP A) with
   | none=>exact List.Sublist.refl _
   | some a=>exact (SD n _).trans (ext_sub A _)
theorem set_sub (c:Cs):(D6 c).A.l.Sublist c.A.l:=SD _ _
theorem kY {s:Ss} {c:Cs} {left m:Int} (h:BR s c.A) (hI:Km c) (hr:c.run≠0) (l0:0≤left) (he:ER c left=0) (hm:Vb m c.A.l) :
 Vb m (D6 (D2 c left)).A.l∧(BW c left=left∨(BW c left < left∧((m≤BW c left∧under m (D6 (D2 c left)).A.l≤under m c.A.l)∨under m (D6 (D2 c left)).A.l+1≤under m c.A.l))):=by
 rcases hI with ⟨h1,_⟩ | ⟨a,ha,zK,hpos,haw,_⟩
 ·exact absurd h1 hr
 have hf:=DL h.o ha
 have hg:C8 c.A.l c.run=a.1:=by unfold C8;rw [zK,hf]
 obtain ⟨p1,_,p3,p4,_⟩:=VQ hg l0 he
 obtain ⟨f1,f2,_⟩:=Ws hg l0 he
 have hid:Az (Dj c left)=Az a:=p1
 have q1:(D2 c left).A.l.Perm (Dj c left :: DZ (Az a) c.A.l):=by
  show (D7 c.A (Dj c left)).l.Perm _
  rw [V9 he,← hid]
  exact Ka h.o
 have q2:=del_perm h.o hf
 have hsub:=iU (m:=m) (set_sub (D2 c left))
 rw [TG q1,TD] at hsub
 have hc:=TG (m:=m) q2
 rw [TD] at hc
 have DR:=hm a ha
 have en:BW c left=if a.1.left < left then a.1.left else left:=by unfold BW EG;rw [hg]
 refine ⟨fun x hx=>?_,?_⟩
 ·have hx:=(set_sub (D2 c left)).subset hx
  rcases List.mem_cons.1 (q1.mem_iff.1 hx) with rfl | k
  ·rw [f1];exact DR
  ·exact hm x (q2.mem_iff.2 (List.mem_cons_of_mem _ k))
 ·by_cases k:a.1.left < left
  ·rw [if_pos k] at en
   rw [en]
   have e2:(Dj c left).1.left=a.1.slice:=by rw [f2,if_pos om]
   rw [e2,if_neg om] at hsub
   refine .inr ⟨k,?_⟩
   by_cases k2:a.1.left < m
   ·rw [if_pos k2] at hc;exact .inr om
   ·rw [if_neg k2] at hc;exact .inl ⟨by omega,by omega⟩
  ·rw [if_neg k] at en;exact .inl en
theorem p7 {a n m:Int} (hm:1≤m) (h:m≤n):(a - n) / m+1≤a / m:=by
 have h1:(a - n) / m≤(a - m) / m:=Int.ediv_le_ediv om om
 have h2:(a - m) / m=a / m - 1:=by
  have:=Int.add_mul_ediv_right a (-1) (show m≠0 by omega)
  rw [show a+-1*m=a - m by omega] at this
  omega
 omega
theorem WB {m:Int} (hm:1≤m):∀ (k:Nat) (left:Int) (c:Cs) (r:Rp),CI c→Km c→0≤left→left≤1099511627776→Vb m c.A.l →
 (((Cy k left c r).2.2.p.length:Nat):Int)≤r.p.length+under m c.A.l+left / m+1∧Vb m (Cy k left c r).2.1.A.l
 | 0,left,c,r,_,_,l0,_,hs=>⟨by show ((r.p.length:Nat):Int)≤_;have:=Int.ediv_nonneg l0 (show 0≤m by omega);omega,hs⟩
 | k+1,left,c,r,hR,hI,l0,l1,hs=>by
   have h0:=Int.ediv_nonneg l0 (show 0≤m by omega)
   unfold Cy
   split
   ·rename_i hc
    split
    ·rename_i he
     obtain ⟨s,hs'⟩:=hR
     obtain ⟨s1,h1⟩:=Pz hs' left
     have hst:=srv_step (c:=c) (most:=left) ⟨l0,by omega⟩ he
     obtain ⟨a1,a2⟩:=kY hs' hI hc.2 l0 he hs
     have el:(Gk c left r).p.length=r.p.length+1:=by show (r.p ++ [Ib c left]).length=_;simp
     rcases a2 with e | ⟨e1,e2⟩
     ·have e0:Cy k (left - BW c left) (D6 (D2 c left)) (Gk c left r)=(0,D6 (D2 c left),Gk c left r):=by
       cases k with
       | zero=>rfl
       | succ k=>unfold Cy;rw [if_neg om]
      rw [e0]
      refine ⟨?_,a1⟩
      show (((Gk c left r).p.length:Nat):Int)≤_
      omega
     ·obtain ⟨i1,i2⟩:=WB hm k (left - BW c left) (D6 (D2 c left)) (Gk c left r) (L7 ⟨s1,h1⟩) (inv_set h1) om om a1
      refine ⟨?_,i2⟩
      rcases e2 with ⟨e2,e3⟩ | e3
      ·have:=p7 (a:=left) hm e2
       omega
      ·have:(left - BW c left) / m≤left / m:=Int.ediv_le_ediv om om
       omega
    ·exact ⟨by show ((r.p.length:Nat):Int)≤_;omega,hs⟩
   ·exact ⟨by show ((r.p.length:Nat):Int)≤_;omega,hs⟩
theorem mP {m:Int} (hm:1≤m) {c:Cs} {ns:Int} (hR:CI c) (hI:Km c) (hs:Vb m c.A.l) (h0:0≤ns):(((AX c ns).2.2.p.length:Nat):Int)≤33+ns / m∧Vb m (AX c ns).2.1.A.l:=by
 have h2:=Int.ediv_nonneg h0 (show 0≤m by omega)
 unfold AX
 split
 ·rename_i hc
  obtain ⟨h1,h3⟩:=WB hm (ns.toNat+1) ns c .none hR hI h0 hc.2 hs
  obtain ⟨s,hs'⟩:=hR
  have e1:=hs'.le
  have e2:=oQ m c.A.l
  have e3:Rp.none.p.length=0:=rfl
  exact ⟨by omega,h3⟩
 ·exact ⟨by show ((0:Nat):Int)≤_;omega,hs⟩
end Go.Proofs.Q0

/- A part of the proof: what its functions compute. -/
import Derived.Test.YtkbcfknnieggbaaGreatDoorBaseV10
set_option linter.unusedVariables false
set_option linter.unusedSimpArgs false
set_option maxRecDepth 100000
namespace Go.Proofs.YtkbcfknnieggbaaGreatDoorX
open Go Go.RowKit
attribute [local irreducible] XS XC XA thenE blockE retE loopE loopS cutB cutN doneE SE
theorem ls_rq {w:World} {v:Value} {l:List RT} {G:List Nat} (h:SlV w 51 10 v l.length (flatR l) G):∃ ad cap,v = .slice ad l.length cap∧(l≠[]→∃ (b off:Nat) (cs:List Value) (E:TypeId) (fz:Nat × Nat),ad=some ⟨b,off,none⟩∧w.heap[b]?=some (.cells cs.toArray E fz)∧∀ (i:Nat) (x:RT),l[i]?=some x→Pick cs (off+i*10) 10 x.1.cells):=by
  obtain ⟨ad,cap,rfl,hD⟩:=(rs_rq h).x
  refine ⟨ad,cap,by rw [List.length_map,List.length_map],fun hn=>?_⟩
  obtain ⟨b,off,cs,E,fz,h1,h2,h3⟩:=hD (fun k=>hn (List.map_eq_nil_iff.1 (List.map_eq_nil_iff.1 k)))
  exact ⟨b,off,cs,E,fz,h1,h2,fun i x hx=>h3 i _ (by rw [List.getElem?_map,List.getElem?_map,hx];rfl)⟩
end Go.Proofs.YtkbcfknnieggbaaGreatDoorX

namespace Go.Proofs.YtkbcfknnieggbaaGreatDoorX
namespace FL
structure F1 where
  w:Rat
  x:Rat
  e:Rat
def cnt (V T:Rat) (k:F1):Rat:=if k.e≤k.w*T then k.w*V - k.x else -(max 0 (min k.x (k.w*T) - k.w*V))
def cntL (V T:Rat):List F1→Rat
  | []=>0
  | k :: l=>cnt V T k+cntL V T l
def wL:List F1→Rat
  | []=>0
  | k :: l=>k.w+wL l
def lag (V:Rat) (k:F1):Rat:=k.w*V - k.x
theorem mul_mono {a b c:Rat} (h:a≤b) (hc:0≤c):c*a≤c*b:=Rat.mul_le_mul_of_nonneg_left h hc
theorem cnt_up {V V' T:Rat} {k:F1} (hw:0 < k.w) (h:V≤V'):cnt V' T k≤cnt V T k+k.w*(V' - V):=by
  have:=mul_mono h (Rat.le_of_lt hw)
  unfold cnt;grind
theorem cnt_dn {V V' T:Rat} {k:F1} (hw:0 < k.w) (h:V'≤V):cnt V' T k≤cnt V T k:=by
  have:=mul_mono h (Rat.le_of_lt hw)
  unfold cnt;grind
theorem cnt_hi {V T:Rat} {k:F1}:cnt V T k≤max 0 (lag V k):=by unfold cnt lag;grind
theorem cnt_lo {V T:Rat} {k:F1}:-(max 0 (-lag V k))≤cnt V T k:=by unfold cnt lag;grind
theorem cntL_up {V V' T:Rat} (h:V≤V'):∀ {l:List F1},(∀ k∈l,0 < k.w)→cntL V' T l≤cntL V T l+wL l*(V' - V)
  | [],_=>by simp only [cntL,wL];grind
  | k :: l,hl=>by
    have h1:=cntL_up h (T:=T) (l:=l) fun k hk=>hl k (List.mem_cons_of_mem _ hk)
    have h2:=cnt_up (T:=T) (hl k List.mem_cons_self) h
    simp only [cntL,wL];grind
theorem cntL_dn {V V' T:Rat} (h:V'≤V):∀ {l:List F1},(∀ k∈l,0 < k.w)→cntL V' T l≤cntL V T l
  | [],_=>by simp only [cntL];grind
  | k :: l,hl=>by
    have h1:=cntL_dn h (T:=T) (l:=l) fun k hk=>hl k (List.mem_cons_of_mem _ hk)
    have h2:=cnt_dn (T:=T) (hl k List.mem_cons_self) h
    simp only [cntL];grind
theorem wL_nn:∀ {l:List F1},(∀ k∈l,0 < k.w)→0≤wL l
  | [],_=>by simp only [wL];grind
  | k :: l,hl=>by
    have h1:=wL_nn (l:=l) fun k hk=>hl k (List.mem_cons_of_mem _ hk)
    have h2:=hl k List.mem_cons_self
    simp only [wL];grind
theorem wL_mem:∀ {l:List F1},(∀ k∈l,0 < k.w)→∀ k∈l,k.w≤wL l
  | k :: l,hl,j,hj=>by
    have h0:=wL_nn (l:=l) fun k hk=>hl k (List.mem_cons_of_mem _ hk)
    have h2:=hl k List.mem_cons_self
    simp only [wL]
    rcases List.mem_cons.1 hj with rfl | hj
    · grind
    · have h1:=wL_mem (fun k hk=>hl k (List.mem_cons_of_mem _ hk)) j hj
      grind
structure Fair (V:Rat) (l:List F1) (B:Rat):Prop where
  nn:0≤B
  low:∀ k∈l,-B≤lag V k
  high:∀ T,cntL V T l≤B
theorem Fair.weaken {V:Rat} {l:List F1} {B B':Rat} (h:Fair V l B) (hb:B≤B'):Fair V l B':=⟨by have:=h.nn;grind,fun k hk=>by have:=h.low k hk;grind,fun T=>by have:=h.high T;grind⟩
theorem turn_low {V V' c:Rat} {l:List F1} (hw:∀ k∈l,0 < k.w) (hc:wL l*(V - V')≤c) (h0:0≤c):∀ k∈l,lag V k - c≤lag V' k:=fun k hk=>by
  have a:=hw k hk
  have b:=wL_mem hw k hk
  unfold lag
  rcases (Rat.le_total:V≤V'∨V'≤V) with q | q
  · have:=mul_mono q (Rat.le_of_lt a)
    grind
  · have:(V - V')*k.w≤(V - V')*wL l:=mul_mono b (by grind)
    grind
theorem turn_high {V V' T c:Rat} {l:List F1} (hw:∀ k∈l,0 < k.w) (hc:wL l*(V' - V)≤c) (h0:0≤c):cntL V' T l≤cntL V T l+c:=by
  rcases (Rat.le_total:V≤V'∨V'≤V) with q | q
  · have:=cntL_up (T:=T) q hw
    grind
  · have:=cntL_dn (T:=T) q hw
    grind
theorem Fair.join {V V':Rat} {l:List F1} {i:F1} {B c:Rat} (h:Fair V l B) (hw:∀ k∈l,0 < k.w) (hV:wL l*(V - V')=lag V' i) (h1:lag V' i≤c) (h2:-c≤lag V' i):Fair V' (i :: l) (B+c):=by
  have h0:0≤c:=by grind
  have nn:=h.nn
  refine ⟨by grind,fun k hk=>?_,fun T=>?_⟩
  · rcases List.mem_cons.1 hk with rfl | hk
    · grind
    · have a:=h.low k hk
      have b:=turn_low hw (show wL l*(V - V')≤c by grind) h0 k hk
      grind
  · have a:=h.high T
    have b:=cnt_hi (V:=V') (T:=T) (k:=i)
    simp only [cntL]
    by_cases q:0≤lag V' i
    · have:=turn_high (T:=T) hw (show wL l*(V' - V)≤0 by grind) (by grind)
      grind
    · have:=turn_high (T:=T) hw (show wL l*(V' - V)≤-lag V' i by grind) (by grind)
      grind
theorem Fair.leave {V V':Rat} {l:List F1} {i:F1} {B c:Rat} (h:Fair V (i :: l) B) (hw:∀ k∈l,0 < k.w) (hV:wL l*(V' - V)=lag V i) (h1:lag V i≤c) (h2:-c≤lag V i):Fair V' l (B+c):=by
  have h0:0≤c:=by grind
  have nn:=h.nn
  refine ⟨by grind,fun k hk=>?_,fun T=>?_⟩
  · have a:=h.low k (List.mem_cons_of_mem _ hk)
    have b:=turn_low hw (show wL l*(V - V')≤c by grind) h0 k hk
    grind
  · have a:=h.high T
    have b:=cnt_lo (V:=V) (T:=T) (k:=i)
    simp only [cntL] at a
    by_cases q:0≤lag V i
    · have:=turn_high (T:=T) hw (show wL l*(V' - V)≤lag V i by grind) (by grind)
      grind
    · have:=turn_high (T:=T) hw (show wL l*(V' - V)≤0 by grind) (by grind)
      grind
theorem Fair.weigh {V V' r:Rat} {l:List F1} {i i':F1} {B c:Rat} (h:Fair V (i :: l) B) (hw:∀ k∈i' :: l,0 < k.w) (hV:wL (i' :: l)*(V - V')=r) (r0:0≤r) (r1:r≤1) (k0:lag V i≤lag V' i') (k1:lag V' i'≤lag V i+1) (h1:lag V i≤c) (h2:-c≤lag V i):Fair V' (i' :: l) (B+(c+1)):=by
  have h0:0≤c:=by grind
  have nn:=h.nn
  have hwl:∀ k∈l,0 < k.w:=fun k hk=>hw k (List.mem_cons_of_mem _ hk)
  have wi:=hw i' List.mem_cons_self
  have wn:=wL_nn hwl
  have vv:V'≤V:=by
    rcases (Rat.le_total:V≤V'∨V'≤V) with q | q
    · have:wL (i' :: l)*V≤wL (i' :: l)*V':=mul_mono q (wL_nn hw)
      have e:wL (i' :: l)*(V - V')=0:=by grind
      have p:wL (i' :: l)≠0:=by simp only [wL];grind
      have:=Rat.mul_eq_zero.1 e
      grind
    · exact q
  have ws:wL l*(V - V')≤1:=by
    have:=mul_mono (c:=i'.w) vv (Rat.le_of_lt wi)
    simp only [wL] at hV
    grind
  refine ⟨by grind,fun k hk=>?_,fun T=>?_⟩
  · rcases List.mem_cons.1 hk with rfl | hk
    · have:=h.low i List.mem_cons_self
      grind
    · have a:=h.low k (List.mem_cons_of_mem _ hk)
      have b:=turn_low hwl ws (by grind) k hk
      grind
  · have a:=h.high T
    have b:=cnt_lo (V:=V) (T:=T) (k:=i)
    have b':=cnt_hi (V:=V') (T:=T) (k:=i')
    have:=cntL_dn (T:=T) vv hwl
    simp only [cntL] at a ⊢
    grind
theorem early_low {V T:Rat} {i k:F1} (hk:0 < k.w) (hi:0 < i.w) (ho:0≤lag V k→i.e*k.w≤k.e*i.w) (he:k.e≤k.w*T) (hn:¬ i.e≤i.w*T):lag V k < 0:=by
  rcases (show lag V k < 0∨0≤lag V k by grind) with q | q
  · exact q
  · have a:=ho q
    have b:i.w*k.e≤i.w*(k.w*T):=mul_mono he (Rat.le_of_lt hi)
    have c:0 < (i.e - i.w*T)*k.w:=Rat.mul_pos (by grind) hk
    grind
theorem serve_late {V V' T:Rat} {i:F1} (hi:0 < i.w) (hv:V≤V') (hn:¬ i.e≤i.w*T):∀ {l:List F1},(∀ k∈l,0 < k.w∧(0≤lag V k→i.e*k.w≤k.e*i.w))→cntL V' T l≤wL l*(V' - V)
  | [],_=>by simp only [cntL,wL];grind
  | k :: l,hl=>by
    have h1:=serve_late hi hv hn (l:=l) fun k hk=>hl k (List.mem_cons_of_mem _ hk)
    obtain ⟨kw,ho⟩:=hl k List.mem_cons_self
    have m:=mul_mono hv (Rat.le_of_lt kw)
    have:cnt V' T k≤k.w*(V' - V):=by
      by_cases q:k.e≤k.w*T
      · have:=early_low kw hi ho q hn
        unfold lag at this
        unfold cnt;grind
      · unfold cnt;grind
    simp only [cntL,wL];grind
theorem Fair.serve {V V' g x' e':Rat} {l:List F1} {i:F1} {B:Rat} (h:Fair V (i :: l) B) (hw:∀ k∈i :: l,0 < k.w) (g0:0≤g) (gB:g≤B) (hV:wL (i :: l)*(V' - V)=g) (ex:x'=i.x+g) (le:x'≤i.e) (ee:e'=i.e∨x'=i.e∧i.e≤e') (el:0≤lag V i) (ho:∀ k∈l,0≤lag V k→i.e*k.w≤k.e*i.w):Fair V' (⟨i.w,x',e'⟩ :: l) B∧V≤V'∧-g≤lag V' ⟨i.w,x',e'⟩:=by
  have hwl:∀ k∈l,0 < k.w:=fun k hk=>hw k (List.mem_cons_of_mem _ hk)
  have wi:=hw i List.mem_cons_self
  have wn:=wL_nn hwl
  have nn:=h.nn
  have vv:V≤V':=by
    rcases (Rat.le_total:V≤V'∨V'≤V) with q | q
    · exact q
    · have:wL (i :: l)*V'≤wL (i :: l)*V:=mul_mono q (wL_nn hw)
      have e:wL (i :: l)*(V' - V)=0:=by grind
      have p:wL (i :: l)≠0:=by simp only [wL];grind
      have:=Rat.mul_eq_zero.1 e
      grind
  have mi:=mul_mono vv (Rat.le_of_lt wi)
  have low:-g≤lag V' ⟨i.w,x',e'⟩:=by unfold lag at el ⊢;simp only;grind
  refine ⟨⟨nn,fun k hk=>?_,fun T=>?_⟩,vv,low⟩
  · rcases List.mem_cons.1 hk with rfl | hk
    · grind
    · have a:=h.low k (List.mem_cons_of_mem _ hk)
      have b:=mul_mono vv (Rat.le_of_lt (hwl k hk))
      unfold lag at a ⊢
      grind
  · simp only [wL] at hV
    by_cases q:i.e≤i.w*T
    · have a:=h.high T
      have b:=cntL_up (T:=T) vv hwl
      have c:cnt V T i=i.w*V - i.x:=if_pos q
      have d:cnt V' T ⟨i.w,x',e'⟩≤i.w*V' - x':=by
        unfold cnt
        simp only
        clear hw ho hwl h
        grind
      simp only [cntL] at a ⊢
      clear hw ho hwl h
      grind
    · have a:=serve_late wi vv q (l:=l) fun k hk=>⟨hwl k hk,ho k hk⟩
      have d:cnt V' T ⟨i.w,x',e'⟩≤0:=by
        unfold cnt
        simp only
        clear hw ho hwl h
        grind
      simp only [cntL]
      clear hw ho hwl h
      grind
theorem cnt_mem {V T:Rat}:∀ {l:List F1},(∀ k∈l,0≤cnt V T k)→∀ k∈l,cnt V T k≤cntL V T l:=by
  have nn:∀ {l:List F1},(∀ k∈l,0≤cnt V T k)→0≤cntL V T l:=fun {l}=>by
    induction l with
    | nil=>intro _;simp only [cntL];grind
    | cons k l ih =>
      intro hl
      have h1:=ih fun k hk=>hl k (List.mem_cons_of_mem _ hk)
      have h2:=hl k List.mem_cons_self
      simp only [cntL];grind
  intro l
  induction l with
  | nil=>intro _ k hk;cases hk
  | cons k l ih =>
    intro hl j hj
    have h1:=nn fun k hk=>hl k (List.mem_cons_of_mem _ hk)
    have h2:=hl k List.mem_cons_self
    simp only [cntL]
    rcases List.mem_cons.1 hj with rfl | hj
    · grind
    · have:=ih (fun k hk=>hl k (List.mem_cons_of_mem _ hk)) j hj
      grind
theorem Fair.late {V:Rat} {l:List F1} {B:Rat} (h:Fair V l B) (hw:∀ k∈l,0 < k.w∧k.x≤k.e) {j:F1} (hj:j∈l) (hl:j.e < j.w*V):lag V j≤B:=by
  obtain ⟨jw,je⟩:=hw j hj
  have hT:j.w*(j.e / j.w)=j.e:=by grind
  have tv:j.e / j.w≤V:=by
    rcases (Rat.le_total:j.e / j.w≤V∨V≤j.e / j.w) with q | q
    · exact q
    · have:=mul_mono q (Rat.le_of_lt jw)
      grind
  generalize j.e / j.w=T at *
  have:=cnt_mem (V:=V) (T:=T) (l:=l) (fun k hk=>by
    obtain ⟨kw,ke⟩:=hw k hk
    have:=mul_mono tv (Rat.le_of_lt kw)
    unfold cnt;grind) j hj
  have hi:=h.high T
  have e:cnt V T j=lag V j:=by unfold cnt lag;grind
  grind
theorem cntL_perm {V T:Rat} {l l':List F1} (h:l.Perm l'):cntL V T l=cntL V T l':=by
  induction h with
  | nil=>rfl
  | cons _ _ ih=>simp only [cntL,ih]
  | swap _ _ _=>simp only [cntL];grind
  | trans _ _ h1 h2=>rw [h1,h2]
theorem Fair.perm {V:Rat} {l l':List F1} {B:Rat} (h:Fair V l B) (p:l.Perm l'):Fair V l' B:=⟨h.nn,fun k hk=>h.low k (p.mem_iff.2 hk),fun T=>by rw [← cntL_perm p];exact h.high T⟩
def shf (s:Rat) (k:F1):F1:=⟨k.w,k.x - k.w*s,k.e - k.w*s⟩
theorem cnt_shf (s V T:Rat) (k:F1):cnt (V - s) (T - s) (shf s k)=cnt V T k:=by unfold cnt shf;simp only;grind
theorem cntL_shf (s V T:Rat):∀ l:List F1,cntL (V - s) (T - s) (l.map (shf s))=cntL V T l
  | []=>rfl
  | k :: l=>by simp only [List.map_cons,cntL,cnt_shf,cntL_shf s V T l]
theorem lag_shf (s V:Rat) (k:F1):lag (V - s) (shf s k)=lag V k:=by unfold lag shf;simp only;grind
theorem Fair.shift {V:Rat} {l:List F1} {B:Rat} (h:Fair V l B) (s:Rat):Fair (V - s) (l.map (shf s)) B:=⟨h.nn,fun k hk=>by
  obtain ⟨j,hj,rfl⟩:=List.mem_map.1 hk
  rw [lag_shf];exact h.low j hj,fun T=>by
  have:=cntL_shf s V (T+s) l
  rw [show T+s - s=T by grind] at this
  rw [this];exact h.high _⟩
end FL
end Go.Proofs.YtkbcfknnieggbaaGreatDoorX

namespace Go.Proofs.YtkbcfknnieggbaaGreatDoorX
open IB (IT)
open FL
def fi (b:Int) (x:It):F1:=⟨((x.p.w:Int):Rat),((dist x.p b:Int):Rat),((dist x.d b:Int):Rat)⟩
def fiL (b:Int) (l:List It):List F1:=l.map (fi b)
def VL (b:Int) (l:List It):Rat:=((sumD b l:Int):Rat) / ((sumW l:Int):Rat)
def FairL (b:Int) (l:List It) (B:Rat):Prop:=FL.Fair (VL b l) (fiL b l) B
theorem wL_fi (b:Int):∀ l:List It,wL (fiL b l)=((sumW l:Int):Rat)
  | []=>rfl
  | x :: l=>by
    show ((x.p.w:Int):Rat)+wL (fiL b l)=((x.p.w+sumW l:Int):Rat)
    rw [wL_fi b l,Rat.intCast_add]
theorem cast_pos {a:Int} (h:0 < a):(0:Rat) < ((a:Int):Rat):=by
  have:=Rat.intCast_lt_intCast.2 h
  simpa using this
theorem cast_le {a b:Int} (h:a≤b):((a:Int):Rat)≤((b:Int):Rat):=Rat.intCast_le_intCast.2 h
theorem VL_mul (b:Int) {l:List It} (hw:0 < sumW l):((sumW l:Int):Rat)*VL b l=((sumD b l:Int):Rat):=by
  have:=cast_pos hw
  unfold VL
  grind
def Told2 (b c k:Int) (l:List It):Prop:=∀ x∈l,sn x.p.t c=sn x.p.t b - k∧sn x.d.t c=sn x.d.t b - k∧x.d.w=x.p.w
theorem fi_move {b c k:Int} {x:It} (h:sn x.p.t c=sn x.p.t b - k∧sn x.d.t c=sn x.d.t b - k∧x.d.w=x.p.w):fi c x=shf ((k:Int):Rat) (fi b x):=by
  have h1:=dist_move h.1
  have h2:=dist_move h.2.1
  rw [h.2.2] at h2
  unfold fi shf
  simp only
  rw [h1,h2,Rat.intCast_sub,Rat.intCast_sub,Rat.intCast_mul]
theorem fiL_move {b c k:Int} {l:List It} (h:Told2 b c k l):fiL c l=(fiL b l).map (shf ((k:Int):Rat)):=by
  unfold fiL
  rw [List.map_map]
  exact List.map_congr_left fun x hx=>fi_move (h x hx)
theorem VL_move {b c k:Int} {l:List It} (h:Told2 b c k l) (hw:0 < sumW l):VL c l=VL b l - ((k:Int):Rat):=by
  have e:=sumD_move (fun x hx=>(h x hx).1)
  have:=cast_pos hw
  unfold VL
  rw [e,Rat.intCast_sub,Rat.intCast_mul]
  grind
theorem sn_rel {x y b c:Int} (h1:sn x b - sn y b+sn y c - sn x c < 18446744073709551616) (h2:-18446744073709551616 < sn x b - sn y b+sn y c - sn x c):sn x c=sn x b - (sn y b - sn y c):=by unfold sn at *;omega
theorem AllW.told {b c lo lo':Int} {l:List It} (h:AllW b lo l) (h':AllW c lo' l):∃ k,Told2 b c k l:=by
  cases l with
  | nil=>exact ⟨0,fun x hx=>by cases hx⟩
  | cons y l =>
    have m:=h.1
    have m':=h'.1
    have y1:=h.head.low
    have y2:=h.head.dead h.1
    have z1:=h'.head.low
    have z2:=h'.head.dead h'.1
    refine ⟨sn y.p.t b - sn y.p.t c,fun x hx=>?_⟩
    have wx:=h.2.2 x hx
    have wx':=h'.2.2 x hx
    have a1:=wx.low
    have a2:=wx.dead h.1
    have a3:=wx.high
    have b1:=wx'.low
    have b2:=wx'.dead h'.1
    have b3:=wx'.high
    unfold Mid at m m'
    refine ⟨sn_rel (by omega) (by omega),sn_rel (by omega) (by omega),(iright_all wx.isin wx.right).2.2.1.symm⟩
theorem FairL.told {b c k:Int} {l:List It} {B:Rat} (h:FairL b l B) (t:Told2 b c k l) (hw:0 < sumW l):FairL c l B:=by
  unfold FairL
  rw [VL_move t hw,fiL_move t]
  exact FL.Fair.shift h _
theorem lag_told {b c k:Int} {l:List It} (t:Told2 b c k l) (hw:0 < sumW l) {x:It} (hx:x∈l):lag (VL c l) (fi c x)=lag (VL b l) (fi b x):=by
  rw [VL_move t hw,fi_move (t x hx),lag_shf]
theorem VL_perm {b:Int} {l l':List It} (p:l.Perm l'):VL b l=VL b l':=by unfold VL;rw [sumD_perm p,sumW_perm p]
theorem FairL.perm {b:Int} {l l':List It} {B:Rat} (h:FairL b l B) (p:l.Perm l'):FairL b l' B:=by
  unfold FairL
  rw [← VL_perm p]
  exact FL.Fair.perm h (p.map _)
theorem AllW.wpos {b lo:Int} {l:List It} (h:AllW b lo l):∀ x∈l,0 < x.p.w:=fun x hx=>by
  have:=(iright_all (h.2.2 x hx).isin (h.2.2 x hx).right).2.2.2.2.2.2.1
  omega
theorem AllW.fpos {b lo:Int} {l:List It} (h:AllW b lo l) (c:Int):∀ k∈fiL c l,0 < k.w:=fun k hk=>by
  obtain ⟨x,hx,rfl⟩:=List.mem_map.1 hk
  exact cast_pos (h.wpos x hx)
theorem FairL.one {b:Int} {x:It} {B:Rat} (hw:0 < x.p.w) (hB:0≤B):FairL b [x] B:=by
  have h1:=cast_pos hw
  have e:VL b [x]*((x.p.w:Int):Rat)=((dist x.p b:Int):Rat):=by
    unfold VL
    simp only [sumD,sumW,Int.add_zero]
    grind
  have z:lag (VL b [x]) (fi b x)=0:=by unfold lag fi;simp only;grind
  refine ⟨hB,fun k hk=>?_,fun T=>?_⟩
  · obtain rfl:=List.mem_singleton.1 hk
    rw [z];grind
  · have:=cnt_hi (V:=VL b [x]) (T:=T) (k:=fi b x)
    rw [z] at this
    show cnt (VL b [x]) T (fi b x)+0≤B
    grind
/-! A set in memory. -/
theorem Rep.cenA {s:Ss} {A:As} (h:Rep s A) (e:A.l≠[]):Cen (mA A) (its A.l):=by
  have:=h.cen e
  rwa [h.mean e] at this
theorem Cen.wpos {m:Mn} {l:List It} (h:Cen m l):0 < sumW l:=by
  have:=h.a0
  have:=h.a1
  have:=h.is.w
  omega
def lgA (A:As) (a:RT):Rat:=lag (VL (mA A).b (its A.l)) (fi (mA A).b a.1.i)
theorem its_mem {l:List RT} {a:RT} (h:a∈l):a.1.i∈its l:=List.mem_map_of_mem h
theorem lag_ov {m:Mn} {l:List It} (h:Cen m l) (x:It):((ovL m x.p:Int):Rat)=lag (VL m.b l) (fi m.b x)*((m.w:Int):Rat):=by
  have hw:=h.wpos
  have e:=VL_mul m.b hw
  unfold ovL lag fi
  simp only
  rw [Rat.intCast_sub,Rat.intCast_mul,Rat.intCast_mul,h.is.a,h.is.w]
  grind
theorem lag_fl {m:Mn} {l:List It} (h:Cen m l) (x:It):((ovL m x.p / m.w:Int):Rat)≤lag (VL m.b l) (fi m.b x)∧lag (VL m.b l) (fi m.b x) < ((ovL m x.p / m.w:Int):Rat)+1:=by
  have hw:0 < m.w:=by have:=h.a0;have:=h.a1;omega
  have hq:=cast_pos hw
  have e:=lag_ov h x
  have h1:ovL m x.p / m.w*m.w≤ovL m x.p:=Int.ediv_mul_le _ (by omega)
  have h2:ovL m x.p < (ovL m x.p / m.w+1)*m.w:=Int.lt_ediv_add_one_mul_self _ hw
  have k1:=cast_le h1
  have k2:=Rat.intCast_lt_intCast.2 h2
  rw [Rat.intCast_mul] at k1 k2
  rw [Rat.intCast_add] at k2
  rw [e] at k1 k2
  generalize ((ovL m x.p / m.w:Int):Rat)=q at *
  generalize lag (VL m.b l) (fi m.b x)=g at *
  generalize ((m.w:Int):Rat)=W at *
  constructor
  · rcases (show q≤g∨g < q by grind) with k | k
    · exact k
    · have:=Rat.mul_pos (show 0 < q - g by grind) hq
      grind
  · rcases (show g < q+1∨q+1≤g by grind) with k | k
    · exact k
    · have:=mul_mono k (Rat.le_of_lt hq)
      have e1:((1:Int):Rat)=1:=rfl
      rw [e1] at k2
      grind
theorem lagR_fl {s:Ss} {A:As} (h:Rep s A) {a:RT} (ha:a∈A.l):((lagR A a:Int):Rat)≤lgA A a∧lgA A a < ((lagR A a:Int):Rat)+1:=lag_fl (h.cenA (List.ne_nil_of_mem ha)) a.1.i
theorem ov_nn {s:Ss} {A:As} (h:Rep s A) {a:RT} (ha:a∈A.l):0≤ovA A a↔0≤lgA A a:=by
  have hc:=h.cenA (List.ne_nil_of_mem ha)
  have hw:0 < (mA A).w:=by have:=hc.a0;have:=hc.a1;omega
  have hq:=cast_pos hw
  have e:=lag_ov hc a.1.i
  have e':((ovA A a:Int):Rat)=lgA A a*(((mA A).w:Int):Rat):=e
  constructor
  · intro k
    have k1:=cast_le k
    rw [e'] at k1
    rcases (show 0≤lgA A a∨lgA A a < 0 by grind) with q | q
    · exact q
    · have:=Rat.mul_pos (show 0 < -lgA A a by grind) hq
      have e0:((0:Int):Rat)=0:=rfl
      grind
  · intro k
    rcases Int.lt_or_le (ovA A a) 0 with q | q
    · have k2:=Rat.intCast_lt_intCast.2 q
      rw [e'] at k2
      have:=mul_mono k (Rat.le_of_lt hq)
      have e0:((0:Int):Rat)=0:=rfl
      grind
    · exact q
def FairA (A:As) (B:Rat):Prop:=0≤B∧(A.l≠[]→FairL (mA A).b (its A.l) B)
theorem FairA.weaken {A:As} {B B':Rat} (h:FairA A B) (k:B≤B'):FairA A B':=⟨by have:=h.1;grind,fun e=>FL.Fair.weaken (h.2 e) k⟩
theorem FairA.nil {A:As} {B:Rat} (h:A.l=[]) (k:0≤B):FairA A B:=⟨k,fun e=>absurd h e⟩
theorem FairA.like {A A':As} {B:Rat} (h:FairA A B) (e:its A'.l=its A.l):FairA A' B:=⟨h.1,fun k=>by
  have:mA A'=mA A:=by unfold mA;rw [e]
  rw [this,e]
  exact h.2 fun k'=>k (List.map_eq_nil_iff.1 (by show its A'.l=[];rw [e,k'];rfl))⟩
theorem Rep.fair {s:Ss} {A:As} (h:Rep s A) {b lo:Int} {L:List It} {B:Rat} (p:(its A.l).Perm L) (hW:AllW b lo L) (hB:0≤B) (hF:L≠[]→FairL b L B):FairA A B:=⟨hB,fun e=>by
  have hc:=h.cenA e
  obtain ⟨lo',k⟩:=hc.all
  obtain ⟨d,t⟩:=(hW.perm p.symm).told k
  exact ((hF (fun q=>its_ne e (by rw [q] at p;exact p.eq_nil))).perm p.symm).told t hc.wpos⟩
theorem Rep.unfair {s:Ss} {A:As} (h:Rep s A) {b lo:Int} {L:List It} {B:Rat} (e:A.l≠[]) (p:(its A.l).Perm L) (hW:AllW b lo L) (hF:FairA A B):FairL b L B:=by
  have hc:=h.cenA e
  obtain ⟨lo',k⟩:=hc.all
  obtain ⟨d,t⟩:=k.told (hW.perm p.symm)
  exact ((hF.2 e).told t hc.wpos).perm p
theorem Rep.lagB {s:Ss} {A:As} (h:Rep s A) {b lo:Int} {L:List It} (p:(its A.l).Perm L) (hW:AllW b lo L) {a:RT} (ha:a∈A.l):FL.lag (VL b L) (fi b a.1.i)=lgA A a:=by
  have hc:=h.cenA (List.ne_nil_of_mem ha)
  obtain ⟨lo',k⟩:=hc.all
  obtain ⟨d,t⟩:=k.told (hW.perm p.symm)
  rw [← VL_perm p]
  exact lag_told t hc.wpos (its_mem ha)
theorem AllW.spos {b lo:Int} {x:It} {l:List It} (h:AllW b lo (x :: l)):0 < sumW (x :: l):=by
  have h1:=h.wpos x List.mem_cons_self
  have h2:=h.tail.sum.2.2.1
  simp only [sumW]
  omega
theorem size_le {x:Int} {y:Rat} (hx:InW x) (h1:((x:Int):Rat)≤y) (h2:y < ((x:Int):Rat)+1):y≤((sizeW x+1:Int):Rat)∧-((sizeW x+1:Int):Rat)≤y:=by
  have a:x+1≤sizeW x+1:=by unfold sizeW;unfold InW at *;split <;> (try split) <;> (try unfold great) <;> omega
  have b:-(sizeW x+1)≤x:=by unfold sizeW;unfold InW at *;split <;> (try split) <;> (try unfold great) <;> omega
  have a':=cast_le a
  have b':=cast_le b
  have e1:((1:Int):Rat)=1:=rfl
  rw [Rat.intCast_add] at a'
  rw [Rat.intCast_neg] at b'
  grind
end Go.Proofs.YtkbcfknnieggbaaGreatDoorX

namespace Go.Proofs.YtkbcfknnieggbaaGreatDoorX
open IB (IT)
open FL
theorem enter_win {s:Ss} {A:As} (h:Rep s A) {r:RT} (e0:entE A r=0):r.1.right=true∧findR A.l (idR r)=none∧∃ lo,AllW (baseA A r.1.i) lo (r.1.i :: its A.l):=by
  have hr:r.1.right=true:=by
    unfold entE layE at e0
    cases k:r.1.right
    · rw [k] at e0;cases e0
    · rfl
  have hj:joinA A r.1.i=0:=by unfold entE layE at e0;rw [hr] at e0;exact e0
  unfold joinA at hj
  cases k1:r.1.i.right with
  | false=>rw [k1] at hj;cases hj
  | true =>
  cases k2:(findR A.l r.1.i.id) with
  | some x=>rw [k1,k2] at hj;cases hj
  | none =>
  by_cases k3:A.l.length=32
  · rw [k1,k2,decide_eq_true k3] at hj;cases hj
  · cases k4:within (baseA A r.1.i) (its A.l ++ [r.1.i]) with
    | false=>rw [k1,k2,decide_eq_false k3,k4] at hj;cases hj
    | true =>
      obtain ⟨lo,hw⟩:=h.win (a:=itR r) k1 k3 k4
      rw [h.base] at hw
      exact ⟨hr,k2,lo,hw.perm (h.pits.cons _)⟩
theorem VL_cons {b lo:Int} {x:It} {l:List It} (h:AllW b lo (x :: l)):(((x.p.w:Int):Rat)+((sumW l:Int):Rat))*VL b (x :: l)=((dist x.p b:Int):Rat)+((sumD b l:Int):Rat):=by
  have e2:=VL_mul b h.spos
  simp only [sumD,sumW] at e2
  rwa [Rat.intCast_add,Rat.intCast_add] at e2
theorem fair_enter {s:Ss} {A:As} {r:RT} {B:Rat} (h:Rep s A) (e0:entE A r=0) (hF:FairA A B):FairA (entA A r) (B+((sizeW (lagA (entA A r) (idR r))+1:Int):Rat)):=by
  obtain ⟨hr,hn,lo,hW⟩:=enter_win h e0
  have R':=(h.enter r).2
  have eA:entA A r=⟨putR r A.l,A.c⟩:=if_pos e0
  rw [eA] at R' ⊢
  generalize hA':(⟨putR r A.l,A.c⟩:As)=A' at *
  have hl:A'.l=putR r A.l:=by rw [← hA']
  have hp:(its A'.l).Perm (r.1.i :: its A.l):=by rw [hl];exact (put_perm hn).map _
  have hf:findR A'.l (idR r)=some r:=by rw [hl,findR_put,if_pos rfl]
  have ha:=(findR_some hf).1
  have eq:lagA A' (idR r)=lagR A' r:=by unfold lagA;rw [hf]
  rw [eq]
  obtain ⟨f1,f2⟩:=lagR_fl R' ha
  have hs:=size_le (lagR_in R' ha) f1 f2
  rw [← R'.lagB hp hW ha] at hs
  generalize ((sizeW (lagR A' r)+1:Int):Rat)=C at *
  have C0:0≤C:=by grind
  have B0:=hF.1
  refine R'.fair hp hW (by grind) fun _=>?_
  by_cases e:A.l=[]
  · rw [show its A.l=[] by rw [e];rfl]
    exact FairL.one (hW.wpos _ List.mem_cons_self) (by grind)
  · have hb:baseA A r.1.i=(mA A).b:=by unfold baseA nowA;rw [if_neg e,if_neg e];rfl
    rw [hb] at hW hs ⊢
    have hw0:=(h.cenA e).wpos
    have e1:=VL_mul (mA A).b hw0
    have e2:=VL_cons hW
    have hG:FL.Fair (VL (mA A).b (its A.l)) (fiL (mA A).b (its A.l)) B:=hF.2 e
    have hV:wL (fiL (mA A).b (its A.l))*(VL (mA A).b (its A.l) - VL (mA A).b (r.1.i :: its A.l))=lag (VL (mA A).b (r.1.i :: its A.l)) (fi (mA A).b r.1.i):=by
      rw [wL_fi]
      unfold lag fi
      simp only
      grind
    exact FL.Fair.join hG (hW.tail.fpos _) hV hs.1 hs.2
theorem le_of_sub {W V V':Rat} (hW:0 < W) (h:0≤W*(V' - V)):V≤V':=by
  rcases (show V≤V'∨V' < V by grind) with k | k
  · exact k
  · have:=Rat.mul_pos hW (show 0 < V - V' by grind)
    grind
theorem fair_exit {s:Ss} {A:As} {a:RT} {id:Int} {B:Rat} (h:Rep s A) (hf:findR A.l id=some a) (hF:FairA A B):FairA (extA A id) (B+((sizeW (lagR A a)+1:Int):Rat))∧(0≤lgA A a→∀ y∈(extA A id).l,lgA A y≤lgA (extA A id) y):=by
  have ha:=(findR_some hf).1
  obtain ⟨_,_,R'⟩:=h.exit hf
  have hl:(extA A id).l=delR id A.l:=by unfold extA;rw [hf];rfl
  generalize extA A id=A' at *
  have hne:=List.ne_nil_of_mem ha
  have hp:(its A.l).Perm (a.1.i :: its A'.l):=by rw [hl];exact (del_perm h.o hf).map _
  obtain ⟨lo,hW0⟩:=(h.cenA hne).all
  have hW:=hW0.perm hp
  obtain ⟨f1,f2⟩:=lagR_fl h ha
  have hs:=size_le (lagR_in h ha) f1 f2
  have hq:=h.lagB hp hW ha
  have hG:FL.Fair _ (fi (mA A).b a.1.i :: fiL (mA A).b (its A'.l)) B:=h.unfair hne hp hW hF
  rw [← hq] at hs ⊢
  generalize ((sizeW (lagR A a)+1:Int):Rat)=C at *
  have B0:=hF.1
  have C0:0≤C:=by grind
  by_cases e:A'.l=[]
  · exact ⟨.nil e (by grind),fun _ y hy=>by rw [e] at hy;cases hy⟩
  · have w0:=(R'.cenA e).wpos
    have w1:=cast_pos w0
    have e1:=VL_mul (mA A).b w0
    have e2:=VL_cons hW
    have hV:wL (fiL (mA A).b (its A'.l))*(VL (mA A).b (its A'.l) - VL (mA A).b (a.1.i :: its A'.l))=lag (VL (mA A).b (a.1.i :: its A'.l)) (fi (mA A).b a.1.i):=by
      rw [wL_fi]
      unfold lag fi
      simp only
      grind
    refine ⟨R'.fair (.refl _) hW.tail (by grind) fun _=>FL.Fair.leave hG (hW.tail.fpos _) hV hs.1 hs.2,fun k y hy=>?_⟩
    have my:y∈A.l:=by rw [hl] at hy;exact (del_sub y hy).1
    have q1:=h.lagB hp hW my
    have q2:=R'.lagB (.refl _) hW.tail hy
    rw [← q1,← q2]
    have vv:=le_of_sub w1 (by rw [wL_fi] at hV;rw [hV];exact k)
    have wy:=cast_pos (hW.wpos y.1.i (List.mem_cons_of_mem _ (its_mem hy)))
    have:=mul_mono vv (Rat.le_of_lt wy)
    unfold lag fi
    simp only
    grind
/-! Where a position is that was moved. -/
theorem mov_dist {p p':Pt} {g o:Int} (h:movP p g=some p') (h1:sn p'.t o - sn p.t o - (g+p.r) / p.w < 18446744073709551616) (h2:-18446744073709551616 < sn p'.t o - sn p.t o - (g+p.r) / p.w):dist p' o=dist p o+g∧p'.w=p.w:=by
  unfold movP atP at h
  split at h
  · cases h
    simp only at h1 h2
    have e:sn (lat p.t ((g+p.r) / p.w)) o=sn p.t o+(g+p.r) / p.w:=by
      generalize (g+p.r) / p.w=k at *
      unfold sn lat at *;omega
    refine ⟨?_,rfl⟩
    show p.w*sn (lat p.t ((g+p.r) / p.w)) o+(g+p.r) % p.w=p.w*sn p.t o+p.r+g
    rw [e,Int.mul_add]
    have:=Int.mul_ediv_add_emod (g+p.r) p.w
    omega
  · cases h
theorem due_of {r:Rq} (hr:r.right=true) (hi:r.In):movP r.i.p (r.left*1048576)=some r.i.d:=by
  have k:=(iright_all hi.1 (rright_i hr)).2.2.1
  have k2:=(iright_all hi.1 (rright_i hr)).2.2.2.2.2.2.1
  unfold Rq.right at hr
  simp only [Bool.and_eq_true,decide_eq_true_eq] at hr
  have e:=hr.2
  unfold dueP at e
  cases q:movP r.i.p (r.left*1048576) with
  | none =>
    rw [q] at e
    rw [← e] at k
    have:(0:Int)=r.i.p.w:=k.symm
    omega
  | some d =>
    rw [q] at e
    exact congrArg some e
theorem mov_time {p p':Pt} {g:Int} (h:movP p g=some p') (hp:p.In) (hr:p.right=true) (g0:1048576≤g) (g1:g≤1152921504606846976):1≤(g+p.r) / p.w∧(g+p.r) / p.w≤1152921504607895552∧sn p'.t p.t=(g+p.r) / p.w:=by
  obtain ⟨w0,w1,r0,r1⟩:=pright_all hp hr
  have a:1≤(g+p.r) / p.w:=(Int.le_ediv_iff_mul_le (by omega)).2 (by omega)
  have b:(g+p.r) / p.w≤g+p.r:=Int.ediv_le_self _ (by omega)
  refine ⟨a,by omega,?_⟩
  unfold movP atP at h
  split at h
  · cases h
    exact sn_lat (by unfold In64;omega)
  · cases h
theorem due_dist {r:Rq} {o lo:Int} (hr:r.right=true) (hi:r.In) (hm:Mid lo) (hW:Win o lo r.i):dist r.i.d o=dist r.i.p o+r.left*1048576∧1≤sn r.i.d.t r.i.p.t:=by
  have h:=due_of hr hi
  have l:=right_left hr
  have hpr:=(iright_all hW.isin hW.right).1
  have t:=mov_time h hW.isin.1 hpr (by omega) (by omega)
  have d:=hW.dead hm
  have l1:=hW.low
  have l2:=hW.high
  unfold Mid at hm
  exact ⟨(mov_dist h (by omega) (by omega)).1,by omega⟩
theorem mean_base {b lo:Int} {l:List It} (h:AllW b lo l) (hl:l≠[]):(meanL l).b=lat b (sumD b l / sumW l):=by
  obtain ⟨m',h1,h2⟩:=centre_is (m:=⟨b,sumD b l,sumW l,l.length⟩) h ⟨rfl,rfl,rfl⟩ hl
  rw [floor_is (m:=⟨b,sumD b l,sumW l,l.length⟩) h ⟨rfl,rfl,rfl⟩ hl,Option.getD_some] at h1
  unfold rebM at h1
  split at h1
  · cases h1
    exact (congrArg Mn.b (h2.eq hl)).symm
  · cases h1
theorem put_win {s:Ss} {A:As} {r:RT} (h:Rep s A) (e0:putE A r=0):r.1.right=true∧∃ a,findR A.l (idR r)=some a∧(othA A (idR r)≠[]→∃ o lo lo',AllW o lo (a.1.i :: othA A (idR r))∧AllW o lo' (r.1.i :: othA A (idR r))∧(∀ x∈a.1.i :: othA A (idR r),sn x.p.t o=sn x.p.t (mA A).b - sn o (mA A).b)∧-4611686018427387904≤sn o (mA A).b∧sn o (mA A).b≤4611686018427387904):=by
  obtain ⟨hr,a,hf⟩:=putE_found e0
  refine ⟨hr,a,hf,fun hne=>?_⟩
  have ha:=(findR_some hf).1
  have hle:=h.le
  have hlen:=(del_perm h.o hf).length_eq
  have hpo:(its A.l).Perm (a.1.i :: othA A (idR r)):=(del_perm h.o hf).map _
  have hol:(othA A (idR r)).length=(delR (idR r) A.l).length:=List.length_map _
  simp only [List.length_cons] at hlen
  have hj:changeA A r.1.i=0:=by unfold putE layE at e0;rw [hr] at e0;exact e0
  unfold changeA at hj
  rw [rright_i hr,show r.1.i.id=idR r from rfl,hf] at hj
  have hch:chBaseA A r.1.i=(meanL (othA A (idR r))).b:=if_neg hne
  rw [hch] at hj
  obtain ⟨lo,k⟩:=(h.cenA (List.ne_nil_of_mem ha)).all
  have k:=k.perm hpo
  obtain ⟨m1,m2,m3⟩:=k.tail.mid hne
  have hmid:=k.1
  unfold Mid at hmid
  have hb:=mean_base k.tail hne
  obtain ⟨c1,_⟩:=mean_of k.tail hne
  have hsn:sn (meanL (othA A (idR r))).b (mA A).b=sumD (mA A).b (othA A (idR r)) / sumW (othA A (idR r)):=by
    rw [hb]
    exact sn_lat (by unfold In64;omega)
  have hlm:=low_mid c1 hne
  generalize (meanL (othA A (idR r))).b=o at *
  obtain ⟨⟨x,x1,x2⟩,⟨y,y1,y2⟩⟩:=hlm
  cases hw:within o (othA A (idR r) ++ [r.1.i]) with
  | false=>rw [hw] at hj;cases hj
  | true =>
    have hmv:=k.move (c:=o) (by rw [hsn];exact m2) (by rw [hsn];exact m3)
    obtain ⟨lo',k'⟩:=win_of (b:=o) (l:=othA A (idR r) ++ [r.1.i]) (fun z hz=>by
      rcases List.mem_append.1 hz with hz | hz
      · exact ⟨(k.tail.2.2 z hz).isin,(k.tail.2.2 z hz).right⟩
      · obtain rfl:=List.mem_singleton.1 hz;exact ⟨r.2.1,rright_i hr⟩) hw ⟨x,by simp [x1],x2⟩ ⟨y,by simp [y1],y2⟩ (by simp;omega)
    exact ⟨o,_,lo',hmv.1,k'.perm List.perm_append_comm,hmv.2,by rw [hsn];omega,by rw [hsn];omega⟩
theorem fair_lone {s:Ss} {A:As} {x:It} {B:Rat} (h:Rep s A) (hp:(its A.l).Perm [x]) (hB:0≤B):FairA A B:=by
  have hne:A.l≠[]:=fun k=>by rw [k] at hp;exact absurd hp.length_eq (by simp [its])
  obtain ⟨lo,k⟩:=(h.cenA hne).all
  have k:=k.perm hp
  exact h.fair hp k hB fun _=>FairL.one (k.wpos _ List.mem_cons_self) hB
theorem weigh_arith {W w So V κ Q F E X x Do Db:Rat} (hW:W=w+So) (hE:E=X+Db) (hX:x+Do=X+Db - (w+So)*κ) (e1:(w+So)*V=x+Do):((Q - w)*(V+κ) - F)*W=(Q - w)*E - F*W:=by
  have h:(V+κ)*W=E:=by grind
  have k:((Q - w)*(V+κ) - F)*W=(Q - w)*((V+κ)*W) - F*W:=by grind
  rw [k,h]
theorem sub_mulR (a b c:Rat):(a - b)*c=a*c - b*c:=by grind
theorem w_lo {E Q F W:Rat} (h:F*W≤E*Q):0≤Q*E - F*W:=by grind
theorem w_hi {E Q F W:Rat} (h:E*Q≤(F+1)*W):0≤1*W - (Q*E - F*W):=by grind
theorem fair_weigh {s:Ss} {A:As} {r a:RT} {q:Int} {B:Rat} (h:Rep s A) (e0:putE A r=0) (hf:findR A.l (idR r)=some a) (hp':weM (mA A) a.1.i.p q=some r.1.i.p) (hF:FairA A B):FairA (putA A r) (B+(((sizeW (lagR A a)+1:Int):Rat)+1)):=by
  obtain ⟨hr,a',hf',hw⟩:=put_win h e0
  obtain rfl:a=a':=Option.some.inj (hf.symm.trans hf')
  have R':=(h.put r).2.1
  have hl:=put_l e0
  generalize putA A r=A' at *
  have hp:(its A'.l).Perm (r.1.i :: othA A (idR r)):=by rw [hl];exact (put_perm2 h.o).map _
  have hpo:(its A.l).Perm (a.1.i :: othA A (idR r)):=(del_perm h.o hf).map _
  have ha:=(findR_some hf).1
  have hne:=List.ne_nil_of_mem ha
  obtain ⟨f1,f2⟩:=lagR_fl h ha
  have hs:=size_le (lagR_in h ha) f1 f2
  generalize ((sizeW (lagR A a)+1:Int):Rat)=C at *
  have B0:=hF.1
  have C0:0≤C:=by grind
  by_cases e:othA A (idR r)=[]
  · rw [e] at hp
    exact fair_lone R' hp (by grind)
  · obtain ⟨o,lo,lo',hW,hW',hmv,o1,o2⟩:=hw e
    have hG:FL.Fair _ (fi o a.1.i :: fiL o (othA A (idR r))) B:=h.unfair hne hpo hW hF
    rw [← h.lagB hpo hW ha] at hs
    have hc:=h.cenA hne
    have ea:=hc.is.a
    have ew:=hc.is.w
    rw [sumD_perm hpo] at ea
    rw [sumW_perm hpo] at ew
    have hms:=sumD_move hmv
    have e1:=VL_cons hW
    have e2:=VL_cons hW'
    have wpos:=hW.spos
    rw [← ew] at wpos
    have hmv0:=hmv a.1.i List.mem_cons_self
    have hd:=dist_move hmv0
    have dr:=due_dist hr r.2 hW'.1 hW'.head
    have d2:=hW'.head.dead hW'.1
    have d3:=hW'.head.high
    have d4:=hW'.head.low
    have hm':=hW'.1
    unfold Mid at hm'
    unfold weM at hp'
    split at hp'
    · rename_i hcnd
      unfold atP at hp'
      split at hp'
      · rename_i hcn2
        have hpe:=Option.some.inj hp'
        have hD:weD (mA A) a.1.i.p q=dist a.1.i.p (mA A).b+(mA A).a*(q - a.1.i.p.w) / (mA A).w:=rfl
        generalize weD (mA A) a.1.i.p q=D at *
        have hq:=mayW_iff.1 hcn2.1
        have t1:r.1.i.p.t=lat (mA A).b (D / q):=by rw [← hpe]
        have t2:r.1.i.p.r=D % q:=by rw [← hpe]
        have t3:r.1.i.p.w=q:=by rw [← hpe]
        have hin:=hcn2.2
        have hsr:sn r.1.i.p.t o=D / q - sn o (mA A).b:=by
          rw [t1] at d2 d3 d4 dr ⊢
          generalize D / q=k at *
          unfold In64 at hin
          unfold sn lat at *
          omega
        have hdr:dist r.1.i.p o=D - q*sn o (mA A).b:=by
          unfold dist
          rw [t2,t3,hsr,Int.mul_sub]
          have:=Int.mul_ediv_add_emod D q
          omega
        generalize sn o (mA A).b=κ at *
        have hfl1:(mA A).a*(q - a.1.i.p.w) / (mA A).w*(mA A).w≤(mA A).a*(q - a.1.i.p.w):=Int.ediv_mul_le _ (by omega)
        have hfl2:(mA A).a*(q - a.1.i.p.w) < ((mA A).a*(q - a.1.i.p.w) / (mA A).w+1)*(mA A).w:=Int.lt_ediv_add_one_mul_self _ wpos
        generalize (mA A).a*(q - a.1.i.p.w) / (mA A).w=F at *
        have g1:=cast_le hfl1
        have g2:=cast_le (Int.le_of_lt hfl2)
        rw [Rat.intCast_mul,Rat.intCast_mul,Rat.intCast_sub] at g1
        rw [Rat.intCast_mul,Rat.intCast_mul,Rat.intCast_sub,Rat.intCast_add] at g2
        have i1:((1:Int):Rat)=1:=rfl
        rw [i1] at g2
        have wp:=cast_pos wpos
        have qp:=cast_pos (show 0 < q by omega)
        have hWw:=congrArg (fun z:Int=>(z:Rat)) ew
        have hEa:=congrArg (fun z:Int=>(z:Rat)) ea
        have hX:=congrArg (fun z:Int=>(z:Rat)) hms
        have hY:=congrArg (fun z:Int=>(z:Rat)) hd
        have hZ:=congrArg (fun z:Int=>(z:Rat)) hdr
        have hDD:=congrArg (fun z:Int=>(z:Rat)) hD
        simp only [sumW,sumD,Rat.intCast_add,Rat.intCast_sub,Rat.intCast_mul] at hWw hEa hX hY hZ hDD
        rw [t3] at e2
        have sO:(0:Rat)≤((sumW (othA A (idR r)):Int):Rat):=Rat.le_of_lt (cast_pos (hW.tail.mid e).1)
        have key:(((q:Int):Rat)+((sumW (othA A (idR r)):Int):Rat))*(VL o (a.1.i :: othA A (idR r)) - VL o (r.1.i :: othA A (idR r)))=(((q:Int):Rat) - ((a.1.i.p.w:Int):Rat))*(VL o (a.1.i :: othA A (idR r))+((κ:Int):Rat)) - ((F:Int):Rat):=by grind
        have cl:∀ (x:Rat),(0≤x*(((mA A).w:Int):Rat)→0≤x):=fun x hx=>by
          rcases (show 0≤x∨x < 0 by grind) with k | k
          · exact k
          · have:=Rat.mul_pos (show 0 < -x by grind) wp
            grind
        have hma:=weigh_arith (Q:=((q:Int):Rat)) (F:=((F:Int):Rat)) hWw hEa hX e1
        have r0:0≤(((q:Int):Rat) - ((a.1.i.p.w:Int):Rat))*(VL o (a.1.i :: othA A (idR r))+((κ:Int):Rat)) - ((F:Int):Rat):=cl _ (by rw [hma];exact w_lo g1)
        have r1:(((q:Int):Rat) - ((a.1.i.p.w:Int):Rat))*(VL o (a.1.i :: othA A (idR r))+((κ:Int):Rat)) - ((F:Int):Rat)≤1:=by
          have:=cl (1 - ((((q:Int):Rat) - ((a.1.i.p.w:Int):Rat))*(VL o (a.1.i :: othA A (idR r))+((κ:Int):Rat)) - ((F:Int):Rat))) (by rw [sub_mulR,hma];exact w_hi g2)
          grind
        have vv:VL o (r.1.i :: othA A (idR r))≤VL o (a.1.i :: othA A (idR r)):=le_of_sub (W:=((q:Int):Rat)+((sumW (othA A (idR r)):Int):Rat)) (by grind) (by rw [key];exact r0)
        have vw:=mul_mono (c:=((sumW (othA A (idR r)):Int):Rat)) (show 0≤VL o (a.1.i :: othA A (idR r)) - VL o (r.1.i :: othA A (idR r)) by grind) sO
        have vq:=mul_mono (c:=((q:Int):Rat)) (show 0≤VL o (a.1.i :: othA A (idR r)) - VL o (r.1.i :: othA A (idR r)) by grind) (Rat.le_of_lt qp)
        refine R'.fair hp hW' (by grind) fun _=>FL.Fair.weigh hG (hW'.fpos _) (r:=(((q:Int):Rat) - ((a.1.i.p.w:Int):Rat))*(VL o (a.1.i :: othA A (idR r))+((κ:Int):Rat)) - ((F:Int):Rat)) ?_ r0 r1 ?_ ?_ hs.1 hs.2
        · rw [← key]
          show (((r.1.i.p.w:Int):Rat)+wL (fiL o (othA A (idR r))))*_=_
          rw [wL_fi,t3]
        · unfold lag fi
          simp only
          rw [t3]
          grind
        · unfold lag fi
          simp only
          rw [t3]
          grind
      · cases hp'
    · cases hp'
theorem Rep.minR {s:Ss} {A:As} (h:Rep s A):MinR (eligA A) (soonA A):=by
  obtain ⟨lo,hW⟩:=h.q.win
  have hwin:=plain_win hW
  have o1:OrdOn (fun x y:IT=>due x.1 y.1) (·∈s.q.t.list):=dueT hwin hW.1 h.q.inj
  have hin:∀ a:RT,a∈A.l→itR a∈s.q.t.list:=fun a ha=>h.p.mem_iff.2 (List.mem_map_of_mem ha)
  have o2:OrdOn (fun x y:RT=>due x.1.i y.1.i) (·∈A.l):=⟨fun a ha=>o1.irr (itR a) (hin a ha),fun a b c ha hb hc=>o1.tr (itR a) (itR b) (itR c) (hin a ha) (hin b hb) (hin c hc),fun a b ha hb k1 k2=>by
    have:=o1.tri (itR a) (itR b) (hin a ha) (hin b hb) k1 k2
    exact h.o.inj a ha b hb (congrArg (fun z:IT=>z.1.id) this)⟩
  exact first_min o2 fun z hz=>(List.mem_filter.1 hz).1
theorem soon_le {s:Ss} {A:As} {a y:RT} {o lo:Int} (h:Rep s A) (hs:soonA A=some a) (hy:y∈A.l) (h0:0≤ovA A y) (wa:Win o lo a.1.i) (wy:Win o lo y.1.i) (hm:Mid lo):dist a.1.i.d o*y.1.i.p.w≤dist y.1.i.d o*a.1.i.p.w:=by
  have hr:=h.minR
  rw [hs] at hr
  have hd:=hr.2 y (List.mem_filter.2 ⟨hy,by simpa using h0⟩)
  have ia:=iright_all wa.isin wa.right
  have iy:=iright_all wy.isin wy.right
  have da:=wa.dead hm
  have dy:=wy.dead hm
  have la:=wa.low
  have ly:=wy.low
  have ha:=wa.high
  have hh:=wy.high
  have hc:=cmp_le (cmpP_frac wy.isin.2.2 wa.isin.2.2 iy.2.1 ia.2.1 (b:=o) (by unfold Near;unfold Mid at hm;omega))
  have:leP o a.1.i.d y.1.i.d:=by
    rcases Classical.em (leP o a.1.i.d y.1.i.d) with k | k
    · exact k
    · have:=hc.1.2 k
      unfold due at hd
      rw [decide_eq_true this] at hd
      cases hd
  unfold leP at this
  rwa [← ia.2.2.1,← iy.2.2.1] at this
theorem lone_lag {b:Int} {x:It} (hw:0 < x.p.w):lag (VL b [x]) (fi b x)=0:=by
  have h1:=cast_pos hw
  unfold VL lag fi
  simp only [sumD,sumW,Int.add_zero]
  grind
theorem fair_serve {s:Ss} {A:As} {r a:RT} {n:Int} {B:Rat} (h:Rep s A) (e0:putE A r=0) (hf:findR A.l (idR r)=some a) (hs:soonA A=some a) (n1:1≤n) (n2:n≤a.1.left) (hp':movP a.1.i.p (n*1048576)=some r.1.i.p) (hl':r.1.left=a.1.left - n∨a.1.left - n=0) (hB:((n*1048576:Int):Rat)≤B) (hF:FairA A B) :
    FairA (putA A r) B∧(∀ y∈A.l,idR y≠idR r→lgA A y≤lgA (putA A r) y)∧-((n*1048576:Int):Rat)≤lgA (putA A r) r:=by
  obtain ⟨hr,a',hf',hw⟩:=put_win h e0
  obtain rfl:a=a':=Option.some.inj (hf.symm.trans hf')
  have R':=(h.put r).2.1
  have hl:=put_l e0
  generalize putA A r=A' at *
  have hp:(its A'.l).Perm (r.1.i :: othA A (idR r)):=by rw [hl];exact (put_perm2 h.o).map _
  have hpo:(its A.l).Perm (a.1.i :: othA A (idR r)):=(del_perm h.o hf).map _
  have ha:=(findR_some hf).1
  have hne:=List.ne_nil_of_mem ha
  have hmr:r∈A'.l:=by rw [hl];exact (findR_some (by rw [findR_put,if_pos rfl])).1
  have B0:=hF.1
  have la:=right_left (h.r a ha)
  have lr:=right_left hr
  have g0:(0:Rat)≤((n*1048576:Int):Rat):=Rat.le_of_lt (cast_pos (by omega))
  have hea:0≤ovA A a:=by
    have:=h.minR
    rw [hs] at this
    simpa using (List.mem_filter.1 this.1).2
  by_cases e:othA A (idR r)=[]
  · rw [e] at hp
    refine ⟨fair_lone R' hp B0,fun y hy hn=>?_,?_⟩
    · have:y.1.i∈othA A (idR r):=its_mem (List.mem_filter.2 ⟨hy,by simpa using hn⟩)
      rw [e] at this;cases this
    · obtain ⟨lo,k⟩:=(R'.cenA (List.ne_nil_of_mem hmr)).all
      have k:=k.perm hp
      rw [← R'.lagB hp k hmr,lone_lag (k.wpos _ List.mem_cons_self)]
      grind
  · obtain ⟨o,lo,lo',hW,hW',hmv,o1,o2⟩:=hw e
    have hG:FL.Fair _ (fi o a.1.i :: fiL o (othA A (idR r))) B:=h.unfair hne hpo hW hF
    have e1:=VL_cons hW
    have e2:=VL_cons hW'
    have hm:=hW.1
    have hm':=hW'.1
    have aa:=due_dist (h.r a ha) a.2 hW.1 hW.head
    have rr:=due_dist hr r.2 hW'.1 hW'.head
    have tm:=mov_time hp' hW.head.isin.1 (iright_all hW.head.isin hW.head.right).1 (by omega) (by omega)
    have w1:=hW.head.low
    have w2:=hW.head.dead hW.1
    have w3:=hW'.head.low
    have w4:=hW'.head.dead hW'.1
    unfold Mid at hm hm'
    have md:=mov_dist (o:=o) hp' (by omega) (by omega)
    have hV:wL (fi o a.1.i :: fiL o (othA A (idR r)))*(VL o (r.1.i :: othA A (idR r)) - VL o (a.1.i :: othA A (idR r)))=((n*1048576:Int):Rat):=by
      have hY:=congrArg (fun z:Int=>(z:Rat)) md.1
      simp only [Rat.intCast_add] at hY
      show (((a.1.i.p.w:Int):Rat)+wL (fiL o (othA A (idR r))))*_=_
      rw [wL_fi]
      rw [md.2] at e2
      grind
    have hE:((dist r.1.i.d o:Int):Rat)=((dist a.1.i.d o:Int):Rat)∨((dist r.1.i.p o:Int):Rat)=((dist a.1.i.d o:Int):Rat)∧((dist a.1.i.d o:Int):Rat)≤((dist r.1.i.d o:Int):Rat):=by
      rcases hl' with k | k
      · exact .inl (congrArg (fun z:Int=>(z:Rat)) (by rw [rr.1,aa.1,md.1,k,Int.sub_mul];omega))
      · refine .inr ⟨congrArg (fun z:Int=>(z:Rat)) (by rw [aa.1,md.1,show n=a.1.left by omega]),cast_le ?_⟩
        rw [rr.1,aa.1,md.1,show n=a.1.left by omega]
        omega
    have hS:=FL.Fair.serve hG (hW.fpos _) g0 hB hV (x':=((dist r.1.i.p o:Int):Rat)) (e':=((dist r.1.i.d o:Int):Rat)) (by rw [md.1,Rat.intCast_add];rfl) (by
      show ((dist r.1.i.p o:Int):Rat)≤((dist a.1.i.d o:Int):Rat)
      exact cast_le (by rw [md.1,aa.1];omega)) hE (by
      show 0≤lag (VL o (a.1.i :: othA A (idR r))) (fi o a.1.i)
      rw [h.lagB hpo hW ha]
      exact (ov_nn h ha).1 hea) (fun k hk k0=>by
      obtain ⟨x,hx,rfl⟩:=List.mem_map.1 hk
      obtain ⟨y,hy,rfl⟩:=List.mem_map.1 hx
      have my:=(del_sub y hy).1
      have k0:0≤lag (VL o (a.1.i :: othA A (idR r))) (fi o y.1.i):=k0
      rw [h.lagB hpo hW my] at k0
      have:=cast_le (soon_le h hs my ((ov_nn h my).2 k0) hW.head (hW.2.2 _ (List.mem_cons_of_mem _ (its_mem hy))) hW.1)
      rw [Rat.intCast_mul,Rat.intCast_mul] at this
      exact this)
    have ef:(⟨(fi o a.1.i).w,((dist r.1.i.p o:Int):Rat),((dist r.1.i.d o:Int):Rat)⟩:F1)=fi o r.1.i:=by
      unfold fi
      rw [md.2]
    rw [ef] at hS
    obtain ⟨s1,s2,s3⟩:=hS
    refine ⟨R'.fair hp hW' B0 fun _=>s1,fun y hy hn=>?_,?_⟩
    · have mo:y.1.i∈othA A (idR r):=its_mem (List.mem_filter.2 ⟨hy,by simpa using hn⟩)
      have my:y∈A'.l:=by
        rw [hl]
        exact (put_perm2 h.o).mem_iff.2 (List.mem_cons_of_mem _ (List.mem_filter.2 ⟨hy,by simpa using hn⟩))
      rw [← h.lagB hpo hW hy,← R'.lagB hp hW' my]
      have:=mul_mono s2 (Rat.le_of_lt (cast_pos (hW.wpos y.1.i (List.mem_cons_of_mem _ mo))))
      unfold lag fi
      simp only
      grind
    · rw [← R'.lagB hp hW' hmr]
      exact s3
end Go.Proofs.YtkbcfknnieggbaaGreatDoorX

namespace Go.Proofs.YtkbcfknnieggbaaGreatDoorX
open IB (IT)
open FL
theorem cast0:((0:Int):Rat)=0:=rfl
theorem cast1:((1:Int):Rat)=1:=rfl
theorem cntL_abs {V T M:Rat} (hM:0≤M):∀ {l:List F1},(∀ k∈l,lag V k≤M)→cntL V T l≤(((l.length:Nat):Int):Rat)*M
  | [],_=>by
    show (0:Rat)≤((((0:Nat):Nat):Int):Rat)*M
    have:((((0:Nat):Nat):Int):Rat)=0:=rfl
    rw [this];grind
  | k :: l,h=>by
    have ih:=cntL_abs (T:=T) hM (l:=l) fun j hj=>h j (List.mem_cons_of_mem _ hj)
    have h1:=h k List.mem_cons_self
    have h2:=cnt_hi (V:=V) (T:=T) (k:=k)
    have e:((((k :: l).length:Nat):Int):Rat)=(((l.length:Nat):Int):Rat)+1:=by
      rw [show (((k :: l).length:Nat):Int)=(l.length:Int)+1 by simp only [List.length_cons];omega,Rat.intCast_add];rfl
    rw [e]
    simp only [cntL]
    grind
theorem fair_abs {s:Ss} {A:As} (h:Rep s A):FairA A ((great:Int):Rat):=by
  have g0:=cast_le (show (0:Int)≤great by unfold great;omega)
  rw [cast0] at g0
  refine ⟨g0,fun e=>?_⟩
  have hc:=h.cenA e
  obtain ⟨lo,k⟩:=hc.all
  have hw:=cast_pos hc.wpos
  have hV:=VL_mul (mA A).b hc.wpos
  obtain ⟨s1,s2,s3,s4⟩:=k.sum
  have t1:=cast_le s1
  have t2:=cast_le (show sumD (mA A).b (its A.l)≤sumW (its A.l)*(lo+4611686018427387904+1) by omega)
  rw [Rat.intCast_mul] at t1 t2
  rw [← hV] at t1 t2
  have v1:((lo:Int):Rat)≤VL (mA A).b (its A.l):=le_of_sub hw (by grind)
  have v2:VL (mA A).b (its A.l)≤((lo+4611686018427387904+1:Int):Rat):=le_of_sub hw (by grind)
  have key:∀ x∈its A.l,lag (VL (mA A).b (its A.l)) (fi (mA A).b x)≤((4835703278458516698824704+1048576:Int):Rat)∧-((4835703278458516698824704+1048576:Int):Rat)≤lag (VL (mA A).b (its A.l)) (fi (mA A).b x):=fun x hx=>by
    have w:=k.2.2 x hx
    obtain ⟨w0,w1,r0,r1⟩:=(iright_all w.isin w.right).2.2.2.2.2.2.1
    have l1:=w.low
    have l2:=(w.dead k.1).2.2
    have p1:x.p.w*lo≤x.p.w*sn x.p.t (mA A).b:=Int.mul_le_mul_of_nonneg_left l1 (by omega)
    have p2:x.p.w*sn x.p.t (mA A).b≤x.p.w*(lo+4611686018427387904):=Int.mul_le_mul_of_nonneg_left l2 (by omega)
    have d1:=cast_le (show x.p.w*lo≤dist x.p (mA A).b by unfold dist;omega)
    have d2:=cast_le (show dist x.p (mA A).b≤x.p.w*(lo+4611686018427387904+1) by unfold dist;rw [Int.mul_add x.p.w (lo+4611686018427387904) 1];omega)
    have wp:=cast_pos (show 0 < x.p.w by omega)
    have b1:=mul_mono v1 (Rat.le_of_lt wp)
    have b2:=mul_mono v2 (Rat.le_of_lt wp)
    have wm:=cast_le (show x.p.w*4611686018427387905≤4835703278458516698824704+1048576 by omega)
    rw [Rat.intCast_mul] at d1 d2
    have e1:((lo+4611686018427387904+1:Int):Rat)=((lo:Int):Rat)+((4611686018427387905:Int):Rat):=by rw [← Rat.intCast_add];congr 1;omega
    rw [e1] at b2 d2
    rw [Rat.intCast_mul] at wm
    unfold lag fi
    simp only
    generalize ((4611686018427387905:Int):Rat)=Q at *
    generalize ((4835703278458516698824704+1048576:Int):Rat)=R at *
    clear hw hV t1 t2
    grind
  have mg:=cast_le (show (4835703278458516698824704+1048576:Int)≤great by unfold great;omega)
  have m0:=cast_le (show (0:Int)≤4835703278458516698824704+1048576 by omega)
  rw [cast0] at m0
  refine ⟨g0,fun j hj=>?_,fun T=>?_⟩
  · obtain ⟨x,hx,rfl⟩:=List.mem_map.1 hj
    have:=(key x hx).2
    grind
  · have hl:=cntL_abs (V:=VL (mA A).b (its A.l)) (T:=T) m0 (l:=fiL (mA A).b (its A.l)) fun j hj=>by
      obtain ⟨x,hx,rfl⟩:=List.mem_map.1 hj
      exact (key x hx).1
    have e1:(fiL (mA A).b (its A.l)).length=A.l.length:=by unfold fiL its;rw [List.length_map,List.length_map]
    have hle:=h.le
    rw [e1,← Rat.intCast_mul] at hl
    have:=cast_le (show ((A.l.length:Nat):Int)*(4835703278458516698824704+1048576)≤great by unfold great;omega)
    grind
theorem fair_carry {s:Ss} {A:As} {x q:Int} {X:Rat} (R:Rep s A) (hx:0≤x) (hq:InW q) (X0:0≤X) (hF:FairA A (X+((x:Int):Rat)+(((sizeW q+1:Int):Rat)+1))):FairA A (X+((carryW x q:Int):Rat))∧0≤carryW x q:=by
  have hs:=(sizeW_in hq).2
  have cf:caF 0 [q]=if InW (0+sizeW q+2) then 0+sizeW q+2 else great:=by unfold caF;rfl
  have gp:0≤great:=by unfold great;omega
  have key:carryW x q=x+(sizeW q+1+1)∨great≤carryW x q:=by
    unfold carryW
    rw [cf]
    by_cases i:InW (0+sizeW q+2)
    · rw [if_pos i]
      by_cases j:InW (x+(0+sizeW q+2))
      · rw [if_pos j];left;omega
      · rw [if_neg j];right;omega
    · rw [if_neg i]
      by_cases j:InW (x+great)
      · rw [if_pos j];right;omega
      · rw [if_neg j];right;omega
  rcases key with k | k
  · rw [k]
    refine ⟨?_,by omega⟩
    rw [Rat.intCast_add,Rat.intCast_add _ 1,cast1]
    exact hF.weaken (by grind)
  · refine ⟨(fair_abs R).weaken ?_,by omega⟩
    have:=cast_le k
    grind
theorem fair_flushN:∀ {n:Nat} {s:Ss} {A:As} {x:Int} {X:Rat},Rep s A→0≤x→0≤X→FairA A (X+((x:Int):Rat))→(FairA (flushN n A).2 (X+((carryL x (flushN n A).1:Int):Rat))∧0≤carryL x (flushN n A).1)∧∀ y∈(flushN n A).2.l,y∈A.l∧lgA A y≤lgA (flushN n A).2 y
  | 0,s,A,x,X,h,hx,X0,hF=>⟨⟨hF,hx⟩,fun y hy=>⟨hy,Rat.le_refl⟩⟩
  | n+1,s,A,x,X,h,hx,X0,hF=>by
    unfold Go.Proofs.YtkbcfknnieggbaaGreatDoorX.flushN
    cases e:A.l.find? (goesA A) with
    | none=>exact ⟨⟨hF,hx⟩,fun y hy=>⟨hy,Rat.le_refl⟩⟩
    | some a =>
      have ha:=List.mem_of_find?_eq_some e
      have hgo:=List.find?_some e
      unfold goesA at hgo
      rw [Bool.and_eq_true,decide_eq_true_iff] at hgo
      have hf:=findR_at h.o ha
      obtain ⟨_,_,R'⟩:=h.exit hf
      obtain ⟨f1,f2⟩:=fair_exit h hf hF
      obtain ⟨c1,c2⟩:=fair_carry R' hx (lagR_in h ha) X0 (f1.weaken (by grind))
      obtain ⟨i1,i2⟩:=fair_flushN (n:=n) R' c2 X0 c1
      refine ⟨i1,fun y hy=>?_⟩
      obtain ⟨j1,j2⟩:=i2 y hy
      have j3:=f2 ((ov_nn h ha).1 hgo.2) y j1
      have j4:y∈A.l:=by rw [ext_l hf] at j1;exact (del_sub y j1).1
      exact ⟨j4,Rat.le_trans j3 j2⟩
/-! A core. -/
def FairC (c:Cs) (X:Rat):Prop:=0≤c.carr∧FairA c.A (X+((c.carr:Int):Rat))
theorem FairC.weaken {c:Cs} {X Y:Rat} (h:FairC c X) (k:X≤Y):FairC c Y:=⟨h.1,h.2.weaken (by grind)⟩
theorem fair_set {s:Ss} {c:Cs} {X:Rat} (h:Rep s c.A) (X0:0≤X) (hF:FairC c X):FairC (setC c) X∧∀ y∈(setC c).A.l,y∈c.A.l∧lgA c.A y≤lgA (setC c).A y:=by
  obtain ⟨⟨f1,f2⟩,f3⟩:=fair_flushN (n:=c.A.l.length) h hF.1 X0 hF.2
  exact ⟨⟨f2,f1⟩,f3⟩
theorem fair_leaveC {c:Cs} {X:Rat} (h:RepC c) (X0:0≤X) (hF:FairC c X) (id:Int):FairC (leaveC c id).2 X:=by
  obtain ⟨s,hs⟩:=h
  unfold leaveC
  cases e:findR c.A.l id with
  | none=>exact hF
  | some a =>
    obtain ⟨_,_,R'⟩:=hs.exit e
    have el:lagA c.A id=lagR c.A a:=by unfold lagA;rw [e]
    obtain ⟨c1,c2⟩:=fair_carry R' hF.1 (lagR_in hs (findR_some e).1) X0 ((fair_exit hs e hF.2).1.weaken (by grind))
    rw [← el] at c1 c2
    exact ⟨c2,c1⟩
theorem rou_its {s:Ss} {A:As} (h:Rep s A) (id:Int) (b:Bool):its (rouA A id b).l=its A.l:=(((AlikeA.refl A).rouse h.o id b).itsEq).symm
theorem fair_sleepC {c:Cs} {X:Rat} (h:RepC c) (X0:0≤X) (hF:FairC c X) (id:Int):FairC (sleepC c id).2 X:=by
  have hl:=fair_leaveC h X0 hF id
  obtain ⟨s,hs⟩:=h
  unfold sleepC
  cases findR c.A.l id with
  | none=>exact hF
  | some a =>
    show FairC (if a.1.asleep=true then (6,c) else if owedA c.A id < 0 then (0,(⟨rouA c.A id true,c.run,c.carr⟩:Cs)) else leaveC c id).2 X
    split
    · exact hF
    · split
      · exact ⟨hF.1,hF.2.like (rou_its hs id true)⟩
      · exact hl
theorem fair_wakeC {c:Cs} {X:Rat} (h:RepC c) (hF:FairC c X) (id:Int):FairC (wakeC c id).2 X:=by
  obtain ⟨s,hs⟩:=h
  unfold wakeC
  cases findR c.A.l id with
  | none=>exact hF
  | some a =>
    show FairC (if a.1.asleep=true then (0,(⟨rouA c.A id false,c.run,c.carr⟩:Cs)) else (6,c)).2 X
    split
    · exact ⟨hF.1,hF.2.like (rou_its hs id false)⟩
    · exact hF
theorem fair_joinC {c:Cs} {X:Rat} (h:RepC c) (X0:0≤X) (hF:FairC c X) (id q ns g:Int):FairC (joinC c id q ns g).2 X:=by
  obtain ⟨s,hs⟩:=h
  unfold joinC
  split
  · exact hF
  · split
    · exact hF
    · split
      · exact hF
      · cases ej:joinOk c id q ns g with
        | none=>exact hF
        | some r =>
          show FairC (if entE c.A r=0 then (0,(⟨entA c.A r,c.run,carryW c.carr (lagA (entA c.A r) id)⟩:Cs)) else (entE c.A r,c)).2 X
          by_cases e0:entE c.A r=0
          · rw [if_pos e0]
            have hid:idR r=id:=by
              unfold joinOk at ej
              cases ep:placeA c.A q g with
              | none=>rw [ep] at ej;cases ej
              | some p =>
                rw [ep] at ej
                cases en:newR p id ns with
                | none =>
                  have ej:(newR p id ns).map toRT=some r:=ej
                  rw [en] at ej;cases ej
                | some y =>
                  have ej:(newR p id ns).map toRT=some r:=ej
                  rw [en] at ej
                  have ej:toRT y=r:=Option.some.inj ej
                  have k:=(setR_keeps en).1
                  have hr:=(enter_win hs e0).1
                  rw [← ej] at hr ⊢
                  unfold toRT at hr ⊢
                  split at hr
                  · rename_i hin
                    rw [dif_pos hin]
                    exact k
                  · exact absurd hr (by decide)
            obtain ⟨c1,c2⟩:=fair_carry (hs.enter r).2 hF.1 (lagA_in (hs.enter r).2 (idR r)) X0 ((fair_enter hs e0 hF.2).weaken (by grind))
            rw [hid] at c1 c2
            exact ⟨c2,c1⟩
          · rw [if_neg e0];exact hF
theorem move_keeps {r y:Rq} {p:Pt} (h:moveR r p=some y):y.i.p=p∧y.i.id=r.i.id:=by
  unfold moveR at h
  cases k:r.right with
  | false=>rw [k] at h;cases h
  | true =>
    rw [k] at h
    have h:setR ⟨⟨p,r.i.id,r.i.d⟩,r.left,r.slice,r.asleep⟩=some y:=h
    unfold setR at h
    cases k2:(fixR ⟨⟨p,r.i.id,r.i.d⟩,r.left,r.slice,r.asleep⟩).right with
    | false=>rw [k2] at h;cases h
    | true =>
      rw [k2] at h
      cases h
      unfold fixR
      simp only
      cases mayN r.left <;> exact ⟨rfl,rfl⟩
theorem fair_weighC {c:Cs} {X:Rat} (h:RepC c) (X0:0≤X) (hF:FairC c X) (id q:Int):FairC (weighC c id q).2 X:=by
  obtain ⟨s,hs⟩:=h
  unfold weighC
  split
  · exact hF
  · cases e:findR c.A.l id with
    | none=>exact hF
    | some a =>
      show FairC (weighS c id (weighOk c.A a.1 q)).2 X
      have ha:=(findR_some e).1
      have hid:=(findR_some e).2
      cases ew:weighOk c.A a.1 q with
      | none=>exact hF
      | some y =>
        have el:lagA c.A id=lagR c.A a:=by unfold lagA;rw [e]
        have C0:=hF.2.1
        have hsz:=cast_le (sizeW_in (lagR_in hs ha)).2
        rw [cast0] at hsz
        have hfin:FairA (putA c.A (toRT y)) (X+((c.carr:Int):Rat)+(((sizeW (lagR c.A a)+1:Int):Rat)+1)):=by
          by_cases e0:putE c.A (toRT y)=0
          · unfold weighOk at ew
            cases em:weM (mA c.A) a.1.i.p q with
            | none=>rw [em] at ew;cases ew
            | some p =>
              rw [em] at ew
              have ew:moveR a.1 p=some y:=ew
              obtain ⟨k1,k2⟩:=move_keeps ew
              have hy:=move_in a.2 (weM_in em) ew
              have ey:(toRT y).1=y:=toRT_eq hy
              have ei:idR (toRT y)=id:=by show (toRT y).1.i.id=id;rw [ey,k2];exact hid
              exact fair_weigh hs e0 (by rw [ei];exact e) (by rw [ey,k1];exact em) hF.2
          · unfold putA
            rw [if_neg e0]
            refine hF.2.weaken ?_
            rw [Rat.intCast_add,cast1]
            grind
        obtain ⟨c1,c2⟩:=fair_carry (hs.put (toRT y)).2.1 hF.1 (lagR_in hs ha) X0 hfin
        rw [← el] at c1 c2
        exact ⟨c2,c1⟩
theorem fair_same {s:Ss} {A:As} {r a:RT} {B:Rat} (h:Rep s A) (e0:putE A r=0) (hf:findR A.l (idR r)=some a) (hi:r.1.i=a.1.i) (hF:FairA A B):FairA (putA A r) B:=by
  have R':=(h.put r).2.1
  have hl:=put_l e0
  have hp:(its (putA A r).l).Perm (r.1.i :: othA A (idR r)):=by rw [hl];exact (put_perm2 h.o).map _
  have hpo:(its A.l).Perm (a.1.i :: othA A (idR r)):=(del_perm h.o hf).map _
  have hne:=List.ne_nil_of_mem (findR_some hf).1
  obtain ⟨lo,k⟩:=(h.cenA hne).all
  rw [hi] at hp
  exact R'.fair hp (k.perm hpo) hF.1 fun _=>h.unfair hne hpo (k.perm hpo) hF
theorem slice_keeps {r y:Rq} {n:Int} (hi:r.In) (h:sliceR r n=some y):y.i=r.i:=by
  unfold sliceR at h
  cases k:r.right with
  | false=>rw [k] at h;cases h
  | true =>
    rw [k] at h
    have h:setR ⟨r.i,r.left,n,r.asleep⟩=some y:=h
    unfold setR at h
    cases k2:(fixR ⟨r.i,r.left,n,r.asleep⟩).right with
    | false=>rw [k2] at h;cases h
    | true =>
      rw [k2] at h
      cases h
      have hd:dueP r.i.p r.left=r.i.d:=by
        unfold dueP
        rw [due_of k hi];rfl
      unfold fixR
      simp only
      cases mayN r.left
      · rfl
      · show (⟨r.i.p,r.i.id,dueP r.i.p r.left⟩:It)=r.i
        rw [hd]
theorem fair_sliceC {c:Cs} {X:Rat} (h:RepC c) (hF:FairC c X) (id:Int) {ns:Int} (hn:U64 ns):FairC (sliceC c id ns).2 X:=by
  obtain ⟨s,hs⟩:=h
  unfold sliceC
  split
  · exact hF
  · cases e:findR c.A.l id with
    | none=>exact hF
    | some a =>
      show FairC ⟨putA c.A (toRT ((sliceR a.1 ns).getD .zero)),c.run,c.carr⟩ X
      refine ⟨hF.1,?_⟩
      show FairA (putA c.A (toRT ((sliceR a.1 ns).getD .zero))) _
      cases ey:sliceR a.1 ns with
      | none =>
        show FairA (putA c.A (toRT .zero)) _
        rw [(put_zero _).2]
        exact hF.2
      | some y =>
        show FairA (putA c.A (toRT y)) _
        by_cases e0:putE c.A (toRT y)=0
        · have hy:=slice_in a.2 hn ey
          have et:(toRT y).1=y:=toRT_eq hy
          have hk:=slice_keeps a.2 ey
          refine fair_same hs e0 (a:=a) ?_ (by rw [et,hk]) hF.2
          show findR c.A.l (toRT y).1.i.id=some a
          rw [et,hk]
          have hid:a.1.i.id=id:=(findR_some e).2
          rw [hid];exact e
        · unfold putA
          rw [if_neg e0]
          exact hF.2
end Go.Proofs.YtkbcfknnieggbaaGreatDoorX

namespace Go.Proofs.YtkbcfknnieggbaaGreatDoorX
open IB (IT)
open FL
def InvS (c:Cs):Prop:=(c.run=0∧c.A.l=[])∨∃ a∈c.A.l,c.run=idR a∧soonA c.A=some a
theorem InvS.new (k:Int):InvS (newC k) := .inl ⟨rfl,rfl⟩
theorem InvS.set {s:Ss} {c:Cs} (h:Rep s c.A):InvS (setC c):=by
  rcases h.runs with ⟨h1,h2⟩ | ⟨a,h1,h2,h3,h4,h5,h6⟩
  · exact .inl ⟨h1,h2⟩
  · exact .inr ⟨a,h1,h2,h6⟩
theorem srv_parts {c:Cs} {m:Int} {a:RT} (hg:getL c.A.l c.run=a.1) (m0:0≤m) (he:srvE c m=0):(srvY c m).1.i.id=a.1.i.id∧movP a.1.i.p (srvN c m*1048576)=some (srvY c m).1.i.p∧1≤srvN c m∧srvN c m≤a.1.left∧((srvY c m).1.left=a.1.left - srvN c m∨a.1.left - srvN c m=0):=by
  cases e:srvO c m with
  | none =>
    have:srvE c m=2:=by unfold srvE srvY;rw [e];exact (put_zero _).1
    omega
  | some u =>
    have hu:=srvO_in m0 e
    have hk:=(srvO_keeps e).1
    have hy:srvY c m=toRT u.1:=by unfold srvY;rw [e]
    have hy1:(srvY c m).1=u.1:=by rw [hy];exact toRT_eq hu
    rw [hy1]
    rw [hg] at hk
    unfold srvO serveR at e
    rw [hg] at e
    split at e
    · rename_i hc
      cases em:movP a.1.i.p (srvN c m*1048576) with
      | none=>rw [em] at e;cases e
      | some p =>
        rw [em] at e
        have e:(setR (lessR a.1 p (srvN c m))).map (fun u=>(u,decide (a.1.left - srvN c m=0)))=some u:=e
        cases es:setR (lessR a.1 p (srvN c m)) with
        | none=>rw [es] at e;cases e
        | some y =>
          rw [es] at e
          cases e
          have hn:0≤srvN c m:=by
            unfold srvN lessN
            have:=right_left hc.1
            rw [hg]
            split <;> omega
          unfold setR at es
          cases k2:(fixR (lessR a.1 p (srvN c m))).right with
          | false=>rw [k2] at es;cases es
          | true =>
            rw [k2] at es
            cases es
            have q1:(fixR (lessR a.1 p (srvN c m))).i.p=p:=by
              unfold fixR
              cases mayN (lessR a.1 p (srvN c m)).left <;> rfl
            have q2:(fixR (lessR a.1 p (srvN c m))).left=bif decide (a.1.left - srvN c m=0) then a.1.slice else a.1.left - srvN c m:=by
              unfold fixR
              cases mayN (lessR a.1 p (srvN c m)).left <;> rfl
            refine ⟨hk,congrArg some q1.symm,by omega,hc.2.2,?_⟩
            show (fixR (lessR a.1 p (srvN c m))).left=_∨_
            rw [q2]
            by_cases z:a.1.left - srvN c m=0
            · exact .inr z
            · rw [decide_eq_false z]
              exact .inl rfl
    · cases e
theorem fair_part {s:Ss} {c:Cs} {m:Int} {X Y:Rat} (h:Rep s c.A) (hI:InvS c) (hr:c.run≠0) (m0:0≤m) (m1:m≤1099511627776) (he:srvE c m=0) (hY:((m*1048576:Int):Rat)≤Y) (hX:Y≤X) (hF:FairC c X) :
    FairC (setC (srvA c m)) X∧∀ y∈(setC (srvA c m)).A.l,∃ y0∈c.A.l,idR y0=idR y∧(lgA c.A y0≤lgA (setC (srvA c m)).A y∨-Y≤lgA (setC (srvA c m)).A y):=by
  rcases hI with ⟨h1,_⟩ | ⟨a,ha,hra,hso⟩
  · exact absurd h1 hr
  have hg:getL c.A.l c.run=a.1:=by unfold getL;rw [hra,findR_at h.o ha]
  obtain ⟨p1,p2,p3,p4,p5⟩:=srv_parts hg m0 he
  have hst:=(srv_step (c:=c) (most:=m) ⟨m0,by omega⟩ he).2
  have hid:idR (srvY c m)=idR a:=p1
  have hf:findR c.A.l (idR (srvY c m))=some a:=by rw [hid];exact findR_at h.o ha
  have hnm:=cast_le (show srvN c m*1048576≤m*1048576 by omega)
  have z0:=cast_le (show 0≤m*1048576 by omega)
  rw [cast0] at z0
  have c0:=cast_le hF.1
  rw [cast0] at c0
  obtain ⟨f1,f2,f3⟩:=fair_serve h he hf hso p3 p4 p2 p5 (B:=X+((c.carr:Int):Rat)) (by grind) hF.2
  obtain ⟨s1,hs1⟩:=rep_srv h m
  obtain ⟨g1,g2⟩:=fair_set (c:=srvA c m) (X:=X) hs1 (by grind) ⟨hF.1,f1⟩
  refine ⟨g1,fun y hy=>?_⟩
  obtain ⟨j1,j2⟩:=g2 y hy
  have j1':y∈putR (srvY c m) c.A.l:=by
    have:y∈(putA c.A (srvY c m)).l:=j1
    rwa [put_l he] at this
  rcases List.mem_cons.1 ((put_perm2 h.o).mem_iff.1 j1') with rfl | k
  · exact ⟨a,ha,hid.symm,.inr (by
      have:-((srvN c m*1048576:Int):Rat)≤lgA (srvA c m).A (srvY c m):=f3
      grind)⟩
  · obtain ⟨k1,k2⟩:=del_sub y k
    exact ⟨y,k1,rfl,.inl (Rat.le_trans (f2 y k1 k2) j2)⟩
theorem fair_tick:∀ (k:Nat) (left:Int) (c:Cs) (r:Rp) (X Y:Rat),RepC c→InvS c→0≤left→left≤1099511627776→((left*1048576:Int):Rat)≤Y→Y≤X→FairC c X→(tickN k left c r).1=0 →
    FairC (tickN k left c r).2.1 X∧∀ y∈(tickN k left c r).2.1.A.l,∃ y0∈c.A.l,idR y0=idR y∧(lgA c.A y0≤lgA (tickN k left c r).2.1.A y∨-Y≤lgA (tickN k left c r).2.1.A y)
  | 0,left,c,r,X,Y,hR,hI,l0,l1,hY,hX,hF,he=>⟨hF,fun y hy=>⟨y,hy,rfl,.inl Rat.le_refl⟩⟩
  | k+1,left,c,r,X,Y,hR,hI,l0,l1,hY,hX,hF,he=>by
    unfold tickN at he ⊢
    by_cases hc:0 < left∧c.run≠0
    · rw [if_pos hc] at he ⊢
      by_cases hs:srvE c left=0
      · rw [if_pos hs] at he ⊢
        obtain ⟨s,hs'⟩:=hR
        obtain ⟨s1,h1⟩:=rep_srv hs' left
        have hst:=srv_step (c:=c) (most:=left) ⟨l0,by omega⟩ hs
        obtain ⟨p1,p2⟩:=fair_part hs' hI hc.2 l0 l1 hs hY hX hF
        have hle:=cast_le (show (left - srvN c left)*1048576≤left*1048576 by omega)
        obtain ⟨q1,q2⟩:=fair_tick k (left - srvN c left) (setC (srvA c left)) (srvR c left r) X Y (repC_set ⟨s1,h1⟩) (InvS.set h1) (by omega) (by omega) (Rat.le_trans hle hY) hX p1 he
        refine ⟨q1,fun y hy=>?_⟩
        obtain ⟨y1,m1,i1,o1⟩:=q2 y hy
        obtain ⟨y0,m0,i0,o0⟩:=p2 y1 m1
        refine ⟨y0,m0,i0.trans i1,?_⟩
        rcases o1 with o1 | o1
        · rcases o0 with o0 | o0
          · exact .inl (Rat.le_trans o0 o1)
          · exact .inr (Rat.le_trans o0 o1)
        · exact .inr o1
      · rw [if_neg hs] at he
        exact absurd he hs
    · rw [if_neg hc]
      exact ⟨hF,fun y hy=>⟨y,hy,rfl,.inl Rat.le_refl⟩⟩
def mostA (m:Int) (c:Cs) (a:Ac18):Int:=if 6 < a.d % 10∧(actC c a).1=0 then (if m < a.ns then a.ns else m) else m
theorem mostA_le (m:Int) (c:Cs) (a:Ac18):m≤mostA m c a:=by unfold mostA;split <;> (try split) <;> omega
theorem act_tick {c:Cs} {a:Ac18} (ha:a.In) (h:6 < a.d % 10):doC c a=tickC c a.ns:=by
  unfold doC
  rw [if_neg (by omega),if_neg (by omega),if_neg (by omega),if_neg (by omega),if_neg (by omega),if_neg (by omega)]
theorem fair_act {c:Cs} {a:Ac18} {m:Int} (hR:RepC c) (hI:InvS c) (ha:a.In) (m0:0≤m) (hF:FairC c ((m*1048576:Int):Rat)):FairC (actC c a).2.1 ((mostA m c a*1048576:Int):Rat)∧InvS (actC c a).2.1 ∧
    (6 < a.d % 10→∀ y∈(actC c a).2.1.A.l,∃ y0∈c.A.l,idR y0=idR y∧(lgA c.A y0≤lgA (actC c a).2.1.A y∨-((a.ns*1048576:Int):Rat)≤lgA (actC c a).2.1.A y)):=by
  have X0:=cast_le (show 0≤m*1048576 by omega)
  rw [cast0] at X0
  by_cases e:(actC c a).1=0
  · have e':(doC c a).1=0:=e
    have ec:(actC c a).2.1=setC (doC c a).2.1:=if_pos e'
    obtain ⟨s,hs⟩:=repC_do hR a
    rw [ec]
    refine ⟨?_,InvS.set hs,?_⟩
    · have hm:=mostA_le m c a
      have h0:FairC (doC c a).2.1 ((mostA m c a*1048576:Int):Rat):=by
        by_cases ht:6 < a.d % 10
        · have em:mostA m c a=if m < a.ns then a.ns else m:=if_pos ⟨ht,e⟩
          rw [act_tick ha ht] at e' ⊢
          unfold tickC at e' ⊢
          by_cases hc:1≤a.ns∧a.ns≤1099511627776
          · rw [if_pos hc] at e' ⊢
            have hge:a.ns≤mostA m c a:=by rw [em];split <;> omega
            exact (fair_tick _ _ _ _ ((mostA m c a*1048576:Int):Rat) ((mostA m c a*1048576:Int):Rat) hR hI (by omega) hc.2 (cast_le (by omega)) Rat.le_refl (hF.weaken (cast_le (by omega))) e').1
          · rw [if_neg hc] at e'
            cases e'
        · have em:mostA m c a=m:=if_neg (fun k=>ht k.1)
          rw [em]
          unfold doC
          have hd:=ha.1
          by_cases c1:a.d % 10 < 2
          · rw [if_pos c1];exact fair_joinC hR X0 hF _ _ _ _
          rw [if_neg c1]
          by_cases c2:a.d % 10=2
          · rw [if_pos c2];exact fair_leaveC hR X0 hF _
          rw [if_neg c2]
          by_cases c3:a.d % 10=3
          · rw [if_pos c3];exact fair_sleepC hR X0 hF _
          rw [if_neg c3]
          by_cases c4:a.d % 10=4
          · rw [if_pos c4];exact fair_wakeC hR hF _
          rw [if_neg c4]
          by_cases c5:a.d % 10=5
          · rw [if_pos c5];exact fair_weighC hR X0 hF _ _
          rw [if_neg c5]
          by_cases c6:a.d % 10=6
          · rw [if_pos c6];exact fair_sliceC hR hF _ ha.2.2.2.1
          omega
      have hx:=cast_le (show 0≤mostA m c a*1048576 by omega)
      rw [cast0] at hx
      exact (fair_set hs hx h0).1
    · intro ht y hy
      rw [act_tick ha ht] at e' hs hy ⊢
      unfold tickC at e' hs hy ⊢
      by_cases hc:1≤a.ns∧a.ns≤1099511627776
      · rw [if_pos hc] at e' hs hy ⊢
        have hge:=cast_le (show m*1048576≤(m+a.ns)*1048576 by omega)
        have hge2:=cast_le (show a.ns*1048576≤(m+a.ns)*1048576 by omega)
        obtain ⟨t1,t2⟩:=fair_tick _ _ _ _ (((m+a.ns)*1048576:Int):Rat) ((a.ns*1048576:Int):Rat) hR hI (by omega) hc.2 Rat.le_refl hge2 (hF.weaken hge) e'
        have hx:=cast_le (show 0≤(m+a.ns)*1048576 by omega)
        rw [cast0] at hx
        obtain ⟨j1,j2⟩:=(fair_set hs hx t1).2 y hy
        obtain ⟨y0,k1,k2,k3⟩:=t2 y j1
        refine ⟨y0,k1,k2,?_⟩
        rcases k3 with k3 | k3
        · exact .inl (Rat.le_trans k3 j2)
        · exact .inr (Rat.le_trans k3 j2)
      · rw [if_neg hc] at e'
        cases e'
  · have ec:(actC c a).2.1=c:=if_neg e
    have em:mostA m c a=m:=if_neg (fun k=>e k.2)
    rw [ec,em]
    exact ⟨hF,hI,fun _ y hy=>⟨y,hy,rfl,.inl Rat.le_refl⟩⟩
theorem fair_newC (k:Int):FairC (newC k) (((0:Int)*1048576:Int):Rat):=⟨Int.le_refl _,.nil rfl (by
  show (0:Rat)≤((((0:Int)*1048576:Int)):Rat)+((0:Int):Rat)
  have e:((((0:Int)*1048576:Int)):Rat)=0:=rfl
  rw [e,cast0];grind)⟩
/-! What the laws ask. -/
theorem high_bound {c:Cs} {m:Int} (hR:RepC c) (hF:FairC c ((m*1048576:Int):Rat)) {y:RT} (hy:y∈c.A.l) (hl:y.1.left*1048576 < lagR c.A y):lagR c.A y≤m*1048576+c.carr:=by
  obtain ⟨s,hs⟩:=hR
  have hc:=hs.cenA (List.ne_nil_of_mem hy)
  obtain ⟨lo,k⟩:=hc.all
  have hG:FL.Fair (VL (mA c.A).b (its c.A.l)) (fiL (mA c.A).b (its c.A.l)) _:=hF.2.2 (List.ne_nil_of_mem hy)
  have h1:=(lagR_fl hs hy).1
  have hd:=(due_dist (hs.r y hy) y.2 k.1 (k.2.2 _ (its_mem hy))).1
  have h3:=Rat.intCast_lt_intCast.2 hl
  have h4:=congrArg (fun z:Int=>(z:Rat)) hd
  simp only [Rat.intCast_add] at h4
  have:=FL.Fair.late hG (fun j hj=>by
    obtain ⟨x,hx,rfl⟩:=List.mem_map.1 hj
    refine ⟨cast_pos (k.wpos x hx),?_⟩
    obtain ⟨z,hz,rfl⟩:=List.mem_map.1 hx
    have:=(due_dist (hs.r z hz) z.2 k.1 (k.2.2 _ hx)).1
    have:=right_left (hs.r z hz)
    exact cast_le (by omega)) (j:=fi (mA c.A).b y.1.i) (List.mem_map_of_mem (its_mem hy)) (by
    have:((lagR c.A y:Int):Rat)≤((y.1.i.p.w:Int):Rat)*VL (mA c.A).b (its c.A.l) - ((dist y.1.i.p (mA c.A).b:Int):Rat):=h1
    show ((dist y.1.i.d (mA c.A).b:Int):Rat) < ((y.1.i.p.w:Int):Rat)*VL (mA c.A).b (its c.A.l)
    grind)
  have h5:lgA c.A y≤((m*1048576:Int):Rat)+((c.carr:Int):Rat):=this
  rw [← Rat.intCast_add] at h5
  exact Rat.intCast_le_intCast.1 (Rat.le_trans h1 h5)
end Go.Proofs.YtkbcfknnieggbaaGreatDoorX

namespace Go.Proofs.YtkbcfknnieggbaaGreatDoorX
open Go Go.RowKit
attribute [local irreducible] XS XC XA thenE blockE retE loopE loopS cutB cutN doneE SE
theorem valD_cut (ds:List Int) (i:Nat) (h:i < ds.length):valD ds=valD (ds.take i)+10000 ^ i*(dig ds i+10000*valD (ds.drop (i+1))):=by
  have h1:=valD_append (ds.take i) (ds.drop i)
  rw [List.take_append_drop,List.length_take,Nat.min_eq_left (Nat.le_of_lt h),valD_drop] at h1
  exact h1
theorem valD_cut' (ds:List Int) (i:Nat):valD ds=valD (ds.take i)+10000 ^ i*(dig ds i+10000*valD (ds.drop (i+1))):=by
  rcases Nat.lt_or_ge i ds.length with h | h
  · exact valD_cut ds i h
  · rw [List.take_of_length_le h,dig_ge h,List.drop_of_length_le (by omega)];simp [valD]
theorem take_lt {ds:List Int} (h:DOk ds) (i:Nat):0≤valD (ds.take i)∧valD (ds.take i) < 10000 ^ i:=by
  have ht:DOk (ds.take i):=fun d hd=>h d (List.mem_of_mem_take hd)
  have h1:=valD_lt ht
  have h2:=pow_mono' (show (ds.take i).length≤i by simp;omega)
  exact ⟨valD_nonneg ht,by omega⟩
theorem larger_lt {A B:List Int} (hA:DOk A) (hB:DOk B) {i:Nat} (hd:valD (A.drop (i+1))=valD (B.drop (i+1))) (h:dig A i < dig B i):valD A < valD B:=by
  rw [valD_cut' A i,valD_cut' B i,hd]
  have h1:=take_lt hA i
  have h2:=take_lt hB i
  have h3:(10000:Int) ^ i*(dig A i+10000*valD (B.drop (i+1))+1)≤10000 ^ i*(dig B i+10000*valD (B.drop (i+1))):=Int.mul_le_mul_of_nonneg_left (by omega) (Int.le_of_lt (pow_pos' i))
  rw [Int.mul_add,Int.mul_one] at h3
  omega
set_option maxHeartbeats 1000000 in
theorem larger_ret (na nb:Bool) (sa sb:Value) (A B:List Int) (w0:World) (hDA:DAt w0 sa A) (hDB:DAt w0 sb B) (hA:DOk A) (hB:DOk B) (lA:A.length≤1000) (lB:B.length≤1000) :
    Ret Tryz.prog 66 #[.agg #[.bool na,sa],.agg #[.bool nb,sb]] w0 fun v w'=>v = .int .i64 (cmpI (valD A) (valD B))∧Only [] w0 w':=by
  obtain ⟨ada,ca,rfl,hDA'⟩:=id hDA
  obtain ⟨adb,cb,rfl,hDB'⟩:=id hDB
  have hs:=St.nil w0
  refine ret_of_xc Tryz.func66 (by kernel_rfl) rfl Tryz.ntmps66 rfl rfl rfl ?_
  refine xc_seq ?_
  refine xc_region ?_ ?_;exact rfl
  refine bx hs (k:=?_);intro b2 w hz hs
  refine bx hs (k:=?_);intro b3 w hz hs
  have eM:IntKind.i64.wrap ((if ((B.length:Nat):Int) > (A.length:Nat) then ((B.length:Nat):Int) else (A.length:Nat)) - 1)=((max A.length B.length:Nat):Int) - 1:=by
    have e1:(if ((B.length:Nat):Int) > (A.length:Nat) then ((B.length:Nat):Int) else (A.length:Nat)) - 1=((max A.length B.length:Nat):Int) - 1:=by split <;> omega
    rw [e1]
    exact i64_small (by omega) (by omega)
  repeat' (first|refine vs (k:=?_)|refine qRg ?_|refine Nx.h ?_|fail)
  rw [eM]
  generalize hM:max A.length B.length=M at *
  refine xc_cutB (fun (_:Unit)=>[]) (fun _ w=>valD A=valD B∧St w0 D0 [(b3,.cells #[.bool nb,.slice adb B.length cb] 82,true),(b2,.cells #[.bool na,.slice ada A.length ca] 82,true)] w) ?_ ?_
  · refine xc_loopS (fun (k:Nat)=>[(2,.pointer (some ⟨b2,0,none⟩)),(3,.pointer (some ⟨b3,0,none⟩)),(5,.int .i64 ((k:Nat) - 1))])
      (fun k w=>k≤M∧valD (A.drop k)=valD (B.drop k)∧St w0 D0 [(b3,.cells #[.bool nb,.slice adb B.length cb] 82,true),(b2,.cells #[.bool na,.slice ada A.length ca] 82,true)] w)
      (fun k=>k) M (by (repeat (first | exact agree_nil | (apply agree_cons;exact rfl)))) ⟨Nat.le_refl _,by rw [List.drop_of_length_le (by omega),List.drop_of_length_le (by omega)],hs⟩ fun k env w hI=>?_
    clear hs
    obtain ⟨hk,hv,hs⟩:=hI
    have e1:0 < k→(k:Int) - 1=((k - 1:Nat):Int):=fun h=>by omega
    repeat' (first|refine vs (k:=?_)|refine qRg ?_|refine Nx.h ?_|(refine xc_if rfl (fun hc=>?_) (fun hc=>?_))|fail)
    · have hk0:0 < k:=by omega
      rw [e1 hk0]
      have ek:k - 1+1=k:=by omega
      have ei:IntKind.i64.wrap (((k - 1:Nat):Int) - 1)=((k - 1:Nat):Int) - 1:=i64_small (by omega) (by omega)
      generalize hi:k - 1=i at *
      subst ek
      refine dr [] hs (k:=?_);intro hX w hs
      refine tk 0 hX (k:=?_)
      refine tk 1 hX (k:=?_)
      refine tk 3 hX (k:=?_)
      refine tk 4 hX (k:=?_)
      refine dt 2 hX (k:=?_)
      (with_reducible apply xs_call);exact rfl;exact rfl;exact digit_ret na _ A _ (hDA.only (hs.only0 rfl)) i
      rintro v w' ⟨rfl,ho⟩;replace hs:=hs.call0 ho;repeat' (first|refine Nx.h ?_|fail)
      refine dn (k:=?_)
      refine dt 5 hX (k:=?_)
      (with_reducible apply xs_call);exact rfl;exact rfl;exact digit_ret nb _ B _ (hDB.only (hs.only0 rfl)) i
      rintro v w' ⟨rfl,ho⟩;replace hs:=hs.call0 ho;repeat' (first|refine Nx.h ?_|fail)
      refine dn (k:=?_)
      refine tk 6 hX (k:=?_)
      refine en (k:=?_)
      repeat' (first|refine vs (k:=?_)|refine qRg ?_|refine Nx.h ?_|(refine xc_if rfl (fun hc=>?_) (fun hc=>?_))|fail)
      · first | refine rt (hq:=?_) | refine rt' (hq:=?_)
        refine ⟨?_,hs.only0 rfl⟩
        have h:=larger_lt hA hB hv hc
        unfold cmpI;rw [if_pos h];rfl
      · refine dr [] hs (k:=?_);intro hX w hs
        refine tk 0 hX (k:=?_)
        refine tk 1 hX (k:=?_)
        refine tk 3 hX (k:=?_)
        refine tk 4 hX (k:=?_)
        refine dt 2 hX (k:=?_)
        (with_reducible apply xs_call);exact rfl;exact rfl;exact digit_ret na _ A _ (hDA.only (hs.only0 rfl)) i
        rintro v w' ⟨rfl,ho⟩;replace hs:=hs.call0 ho;repeat' (first|refine Nx.h ?_|fail)
        refine dn (k:=?_)
        refine dt 5 hX (k:=?_)
        (with_reducible apply xs_call);exact rfl;exact rfl;exact digit_ret nb _ B _ (hDB.only (hs.only0 rfl)) i
        rintro v w' ⟨rfl,ho⟩;replace hs:=hs.call0 ho;repeat' (first|refine Nx.h ?_|fail)
        refine dn (k:=?_)
        refine tk 6 hX (k:=?_)
        refine en (k:=?_)
        repeat' (first|refine vs (k:=?_)|refine qRg ?_|refine Nx.h ?_|(refine xc_if rfl (fun hc=>?_) (fun hc=>?_))|fail)
        · first | refine rt (hq:=?_) | refine rt' (hq:=?_)
          refine ⟨?_,hs.only0 rfl⟩
          have h:=larger_lt hB hA hv.symm hc
          unfold cmpI;rw [if_neg (by omega),if_pos h];rfl
        · have he:dig A i=dig B i:=by omega
          refine loopS_next i (by omega) (by (repeat (first | exact agree_nil | (apply agree_cons;first | exact rfl | exact congrArg (Value.int .i64) ei)))) ⟨by omega,?_,hs⟩
          rw [valD_drop A,valD_drop B,hv,he]
    · have hk0:k=0:=by omega
      subst hk0
      exact cutB_exit () (by (repeat (first | exact agree_nil | (apply agree_cons;exact rfl)))) ⟨by simpa using hv,hs⟩
  · rintro _ env w ⟨he,hs⟩
    repeat' (first|refine vs (k:=?_)|refine qRg ?_|refine Nx.h ?_|fail)
    first | refine rt (hq:=?_) | refine rt' (hq:=?_)
    refine ⟨?_,hs.only0 rfl⟩
    rw [he,cmpI];simp [packed]
end Go.Proofs.YtkbcfknnieggbaaGreatDoorX

namespace Go.Proofs.YtkbcfknnieggbaaGreatDoorX
open Go Go.RowKit
attribute [local irreducible] XS XC XA thenE blockE retE loopE loopS cutB cutN doneE SE
set_option maxHeartbeats 2000000 in
theorem bigAdd_ret (v u:Value) (x y:Int) (w0:World) (hBx:BigAt w0 v x) (hBy:BigAt w0 u y) (hx:InB x) (hy:InB y):Ret Tryz.prog 26 #[v,u] w0 fun v w'=>BigAt w' v (x+y)∧Only [] w0 w':=by
  obtain ⟨na,sa,A,rfl,hDA,hA,tA,zA,rfl⟩:=hBx
  obtain ⟨nb,sb,B,rfl,hDB,hB0,tB,zB,rfl⟩:=hBy
  have lA:A.length≤60:=len_in hA tA hx
  have lB:B.length≤60:=len_in hB0 tB hy
  obtain ⟨ada,ca,rfl,_⟩:=id hDA
  obtain ⟨adb,cb,rfl,_⟩:=id hDB
  have hs:=St.nil w0
  have hnA:=valD_nonneg hA
  have hnB:=valD_nonneg hB0
  have hAB:valD A≤valD B→A.length≤B.length:=fun h=>len_le hA tA (by have:=valD_lt hB0;omega)
  have hBA:valD B≤valD A→B.length≤A.length:=fun h=>len_le hB0 tB (by have:=valD_lt hA;omega)
  cases na <;> cases nb
  · refine ret_of_xc Tryz.func26 (by kernel_rfl) rfl Tryz.ntmps26 rfl rfl rfl ?_
    repeat' (first|refine vs (k:=?_)|(refine al hs (k:=?_);intro b w hz hs)|(refine bx hs (k:=?_);intro b w hz hs)|refine qRg ?_|refine Nx.h ?_|refine qCt ?_|fail)
    refine dr [7] hs (k:=?_);intro hX w hs
    refine tk 0 hX (k:=?_)
    refine tk 1 hX (k:=?_)
    refine tk 2 hX (k:=?_)
    refine tk 3 hX (k:=?_)
    refine dt 4 hX (k:=?_)
    (with_reducible apply xs_call);exact rfl;exact rfl;exact plus_ret false false _ _ A B _ (hDA.only (hs.only0 rfl)) (hDB.only (hs.only0 rfl)) hA hB0 (by omega) (by omega)
    rintro v w' ⟨⟨ds,hd,hok,hl,hv⟩,ho⟩;replace hs:=hs.call0 ho
    obtain ⟨ad,cap,rfl,_⟩:=id hd
    repeat' (first|refine Nx.h ?_|fail)
    refine dn (k:=?_)
    refine tk 5 hX (k:=?_)
    refine dt 6 hX (k:=?_)
    (with_reducible apply xs_call);exact rfl;exact rfl;exact trim_ret false _ ds _ hd hok (by omega)
    rintro v w' ⟨hB,ho⟩;replace hs:=hs.call0 ho
    obtain ⟨n1,a1,l1,c1,rfl⟩:=hB.shape
    obtain ⟨R,hs,hB⟩:=hB.read hs rfl
    repeat' (first|refine Nx.h ?_|fail)
    refine dn (k:=?_)
    refine dt 7 hX (k:=?_)
    repeat' (first|(refine stA hs (k:=?_);intro w hs)|refine Nx.h ?_|fail)
    refine dn (k:=?_)
    refine en (k:=?_)
    repeat' (first|refine Nx.h ?_|fail)
    first | refine rt (hq:=?_) | refine rt' (hq:=?_)
    refine ⟨?_,hs.only0 rfl⟩
    have h:=hB _ (fun e he=>hs.ro e (List.mem_append_left _ he))
    rw [hv] at h
    have e:sg false (valD A+valD B)=sg false (valD A)+sg false (valD B):=by simp only [sg,cond_true,cond_false] <;> omega
    rw [← e]
    exact h
  · refine ret_of_xc Tryz.func26 (by kernel_rfl) rfl Tryz.ntmps26 rfl rfl rfl ?_
    repeat' (first|refine vs (k:=?_)|(refine al hs (k:=?_);intro b w hz hs)|(refine bx hs (k:=?_);intro b w hz hs)|refine qRg ?_|refine Nx.h ?_|refine qCf ?_|fail)
    (with_reducible apply xs_call);exact rfl;exact rfl;exact larger_ret false true _ _ A B _ (hDA.only (hs.only0 rfl)) (hDB.only (hs.only0 rfl)) hA hB0 (by omega) (by omega)
    rintro v w' ⟨rfl,ho⟩;replace hs:=hs.call0 ho;repeat' (first|refine vs (k:=?_)|refine Nx.h ?_|(refine xc_if rfl (fun hc=>?_) (fun hc=>?_))|fail)
    · have hge:valD B≤valD A:=by
        revert hc;unfold cmpI;split <;> (try split) <;> omega
      refine dr [7] hs (k:=?_);intro hX w hs
      refine tk 0 hX (k:=?_)
      refine tk 1 hX (k:=?_)
      refine tk 2 hX (k:=?_)
      refine tk 3 hX (k:=?_)
      refine dt 4 hX (k:=?_)
      (with_reducible apply xs_call);exact rfl;exact rfl;exact minus_ret false true _ _ A B _ (hDA.only (hs.only0 rfl)) (hDB.only (hs.only0 rfl)) hA hB0 (by omega) (hBA hge) hge
      rintro v w' ⟨⟨ds,hd,hok,hl,hv⟩,ho⟩;replace hs:=hs.call0 ho
      obtain ⟨ad,cap,rfl,_⟩:=id hd
      repeat' (first|refine Nx.h ?_|fail)
      refine dn (k:=?_)
      refine tk 5 hX (k:=?_)
      refine dt 6 hX (k:=?_)
      (with_reducible apply xs_call);exact rfl;exact rfl;exact trim_ret false _ ds _ hd hok (by omega)
      rintro v w' ⟨hB,ho⟩;replace hs:=hs.call0 ho
      obtain ⟨n1,a1,l1,c1,rfl⟩:=hB.shape
      obtain ⟨R,hs,hB⟩:=hB.read hs rfl
      repeat' (first|refine Nx.h ?_|fail)
      refine dn (k:=?_)
      refine dt 7 hX (k:=?_)
      repeat' (first|(refine stA hs (k:=?_);intro w hs)|refine Nx.h ?_|fail)
      refine dn (k:=?_)
      refine en (k:=?_)
      repeat' (first|refine Nx.h ?_|fail)
      first | refine rt (hq:=?_) | refine rt' (hq:=?_)
      refine ⟨?_,hs.only0 rfl⟩
      have h:=hB _ (fun e he=>hs.ro e (List.mem_append_left _ he))
      rw [hv] at h
      have e:sg false (valD A - valD B)=sg false (valD A)+sg true (valD B):=by simp only [sg,cond_true,cond_false] <;> omega
      rw [← e]
      exact h
    · have hge:valD A≤valD B:=by
        revert hc;unfold cmpI;split <;> (try split) <;> omega
      refine dr [7] hs (k:=?_);intro hX w hs
      refine tk 0 hX (k:=?_)
      refine tk 1 hX (k:=?_)
      refine tk 2 hX (k:=?_)
      refine tk 3 hX (k:=?_)
      refine dt 4 hX (k:=?_)
      (with_reducible apply xs_call);exact rfl;exact rfl;exact minus_ret true false _ _ B A _ (hDB.only (hs.only0 rfl)) (hDA.only (hs.only0 rfl)) hB0 hA (by omega) (hAB hge) hge
      rintro v w' ⟨⟨ds,hd,hok,hl,hv⟩,ho⟩;replace hs:=hs.call0 ho
      obtain ⟨ad,cap,rfl,_⟩:=id hd
      repeat' (first|refine Nx.h ?_|fail)
      refine dn (k:=?_)
      refine tk 5 hX (k:=?_)
      refine dt 6 hX (k:=?_)
      (with_reducible apply xs_call);exact rfl;exact rfl;exact trim_ret true _ ds _ hd hok (by omega)
      rintro v w' ⟨hB,ho⟩;replace hs:=hs.call0 ho
      obtain ⟨n1,a1,l1,c1,rfl⟩:=hB.shape
      obtain ⟨R,hs,hB⟩:=hB.read hs rfl
      repeat' (first|refine Nx.h ?_|fail)
      refine dn (k:=?_)
      refine dt 7 hX (k:=?_)
      repeat' (first|(refine stA hs (k:=?_);intro w hs)|refine Nx.h ?_|fail)
      refine dn (k:=?_)
      refine en (k:=?_)
      repeat' (first|refine Nx.h ?_|fail)
      first | refine rt (hq:=?_) | refine rt' (hq:=?_)
      refine ⟨?_,hs.only0 rfl⟩
      have h:=hB _ (fun e he=>hs.ro e (List.mem_append_left _ he))
      rw [hv] at h
      have e:sg true (valD B - valD A)=sg false (valD A)+sg true (valD B):=by simp only [sg,cond_true,cond_false] <;> omega
      rw [← e]
      exact h
  · refine ret_of_xc Tryz.func26 (by kernel_rfl) rfl Tryz.ntmps26 rfl rfl rfl ?_
    repeat' (first|refine vs (k:=?_)|(refine al hs (k:=?_);intro b w hz hs)|(refine bx hs (k:=?_);intro b w hz hs)|refine qRg ?_|refine Nx.h ?_|refine qCf ?_|fail)
    (with_reducible apply xs_call);exact rfl;exact rfl;exact larger_ret true false _ _ A B _ (hDA.only (hs.only0 rfl)) (hDB.only (hs.only0 rfl)) hA hB0 (by omega) (by omega)
    rintro v w' ⟨rfl,ho⟩;replace hs:=hs.call0 ho;repeat' (first|refine vs (k:=?_)|refine Nx.h ?_|(refine xc_if rfl (fun hc=>?_) (fun hc=>?_))|fail)
    · have hge:valD B≤valD A:=by
        revert hc;unfold cmpI;split <;> (try split) <;> omega
      refine dr [7] hs (k:=?_);intro hX w hs
      refine tk 0 hX (k:=?_)
      refine tk 1 hX (k:=?_)
      refine tk 2 hX (k:=?_)
      refine tk 3 hX (k:=?_)
      refine dt 4 hX (k:=?_)
      (with_reducible apply xs_call);exact rfl;exact rfl;exact minus_ret true false _ _ A B _ (hDA.only (hs.only0 rfl)) (hDB.only (hs.only0 rfl)) hA hB0 (by omega) (hBA hge) hge
      rintro v w' ⟨⟨ds,hd,hok,hl,hv⟩,ho⟩;replace hs:=hs.call0 ho
      obtain ⟨ad,cap,rfl,_⟩:=id hd
      repeat' (first|refine Nx.h ?_|fail)
      refine dn (k:=?_)
      refine tk 5 hX (k:=?_)
      refine dt 6 hX (k:=?_)
      (with_reducible apply xs_call);exact rfl;exact rfl;exact trim_ret true _ ds _ hd hok (by omega)
      rintro v w' ⟨hB,ho⟩;replace hs:=hs.call0 ho
      obtain ⟨n1,a1,l1,c1,rfl⟩:=hB.shape
      obtain ⟨R,hs,hB⟩:=hB.read hs rfl
      repeat' (first|refine Nx.h ?_|fail)
      refine dn (k:=?_)
      refine dt 7 hX (k:=?_)
      repeat' (first|(refine stA hs (k:=?_);intro w hs)|refine Nx.h ?_|fail)
      refine dn (k:=?_)
      refine en (k:=?_)
      repeat' (first|refine Nx.h ?_|fail)
      first | refine rt (hq:=?_) | refine rt' (hq:=?_)
      refine ⟨?_,hs.only0 rfl⟩
      have h:=hB _ (fun e he=>hs.ro e (List.mem_append_left _ he))
      rw [hv] at h
      have e:sg true (valD A - valD B)=sg true (valD A)+sg false (valD B):=by simp only [sg,cond_true,cond_false] <;> omega
      rw [← e]
      exact h
    · have hge:valD A≤valD B:=by
        revert hc;unfold cmpI;split <;> (try split) <;> omega
      refine dr [7] hs (k:=?_);intro hX w hs
      refine tk 0 hX (k:=?_)
      refine tk 1 hX (k:=?_)
      refine tk 2 hX (k:=?_)
      refine tk 3 hX (k:=?_)
      refine dt 4 hX (k:=?_)
      (with_reducible apply xs_call);exact rfl;exact rfl;exact minus_ret false true _ _ B A _ (hDB.only (hs.only0 rfl)) (hDA.only (hs.only0 rfl)) hB0 hA (by omega) (hAB hge) hge
      rintro v w' ⟨⟨ds,hd,hok,hl,hv⟩,ho⟩;replace hs:=hs.call0 ho
      obtain ⟨ad,cap,rfl,_⟩:=id hd
      repeat' (first|refine Nx.h ?_|fail)
      refine dn (k:=?_)
      refine tk 5 hX (k:=?_)
      refine dt 6 hX (k:=?_)
      (with_reducible apply xs_call);exact rfl;exact rfl;exact trim_ret false _ ds _ hd hok (by omega)
      rintro v w' ⟨hB,ho⟩;replace hs:=hs.call0 ho
      obtain ⟨n1,a1,l1,c1,rfl⟩:=hB.shape
      obtain ⟨R,hs,hB⟩:=hB.read hs rfl
      repeat' (first|refine Nx.h ?_|fail)
      refine dn (k:=?_)
      refine dt 7 hX (k:=?_)
      repeat' (first|(refine stA hs (k:=?_);intro w hs)|refine Nx.h ?_|fail)
      refine dn (k:=?_)
      refine en (k:=?_)
      repeat' (first|refine Nx.h ?_|fail)
      first | refine rt (hq:=?_) | refine rt' (hq:=?_)
      refine ⟨?_,hs.only0 rfl⟩
      have h:=hB _ (fun e he=>hs.ro e (List.mem_append_left _ he))
      rw [hv] at h
      have e:sg false (valD B - valD A)=sg true (valD A)+sg false (valD B):=by simp only [sg,cond_true,cond_false] <;> omega
      rw [← e]
      exact h
  · refine ret_of_xc Tryz.func26 (by kernel_rfl) rfl Tryz.ntmps26 rfl rfl rfl ?_
    repeat' (first|refine vs (k:=?_)|(refine al hs (k:=?_);intro b w hz hs)|(refine bx hs (k:=?_);intro b w hz hs)|refine qRg ?_|refine Nx.h ?_|refine qCt ?_|fail)
    refine dr [7] hs (k:=?_);intro hX w hs
    refine tk 0 hX (k:=?_)
    refine tk 1 hX (k:=?_)
    refine tk 2 hX (k:=?_)
    refine tk 3 hX (k:=?_)
    refine dt 4 hX (k:=?_)
    (with_reducible apply xs_call);exact rfl;exact rfl;exact plus_ret true true _ _ A B _ (hDA.only (hs.only0 rfl)) (hDB.only (hs.only0 rfl)) hA hB0 (by omega) (by omega)
    rintro v w' ⟨⟨ds,hd,hok,hl,hv⟩,ho⟩;replace hs:=hs.call0 ho
    obtain ⟨ad,cap,rfl,_⟩:=id hd
    repeat' (first|refine Nx.h ?_|fail)
    refine dn (k:=?_)
    refine tk 5 hX (k:=?_)
    refine dt 6 hX (k:=?_)
    (with_reducible apply xs_call);exact rfl;exact rfl;exact trim_ret true _ ds _ hd hok (by omega)
    rintro v w' ⟨hB,ho⟩;replace hs:=hs.call0 ho
    obtain ⟨n1,a1,l1,c1,rfl⟩:=hB.shape
    obtain ⟨R,hs,hB⟩:=hB.read hs rfl
    repeat' (first|refine Nx.h ?_|fail)
    refine dn (k:=?_)
    refine dt 7 hX (k:=?_)
    repeat' (first|(refine stA hs (k:=?_);intro w hs)|refine Nx.h ?_|fail)
    refine dn (k:=?_)
    refine en (k:=?_)
    repeat' (first|refine Nx.h ?_|fail)
    first | refine rt (hq:=?_) | refine rt' (hq:=?_)
    refine ⟨?_,hs.only0 rfl⟩
    have h:=hB _ (fun e he=>hs.ro e (List.mem_append_left _ he))
    rw [hv] at h
    have e:sg true (valD A+valD B)=sg true (valD A)+sg true (valD B):=by simp only [sg,cond_true,cond_false] <;> omega
    rw [← e]
    exact h
theorem bigSub_ret (v u:Value) (x y:Int) (w0:World) (hBx:BigAt w0 v x) (hBy:BigAt w0 u y) (hx:InB x) (hy:InB y):Ret Tryz.prog 72 #[v,u] w0 fun v w'=>BigAt w' v (x - y)∧Only [] w0 w':=by
  obtain ⟨na,aa,la,ca,rfl⟩:=hBx.shape
  obtain ⟨nb,ab,lb,cb,rfl⟩:=hBy.shape
  have hs:=St.nil w0
  refine ret_of_xc Tryz.func72 (by kernel_rfl) rfl Tryz.ntmps72 rfl rfl rfl ?_
  repeat' (first|(refine al hs (k:=?_);intro b w hz hs)|(refine bx hs (k:=?_);intro b w hz hs)|refine qRg ?_|refine Nx.h ?_|fail)
  refine dr [4] hs (k:=?_);intro hX w hs
  refine tk 0 hX (k:=?_)
  refine tk 1 hX (k:=?_)
  refine dt 2 hX (k:=?_)
  (with_reducible apply xs_call);exact rfl;exact rfl;exact bigNeg_ret _ y _ (hBy.only (hs.only0 rfl)) hy
  rintro v w' ⟨hB,ho⟩;replace hs:=hs.call0 ho
  repeat' (first|refine Nx.h ?_|fail)
  refine dn (k:=?_)
  refine dt 3 hX (k:=?_)
  (with_reducible apply xs_call);exact rfl;exact rfl;exact bigAdd_ret _ _ x (-y) _ (hBx.only (hs.only0 rfl)) hB hx (by obtain ⟨h1,h2⟩:=hy;exact ⟨by omega,by omega⟩)
  rintro v w' ⟨hB,ho⟩;replace hs:=hs.call0 ho
  obtain ⟨n1,a1,l1,c1,rfl⟩:=hB.shape
  obtain ⟨R,hs,hB⟩:=hB.read hs rfl
  repeat' (first|refine Nx.h ?_|fail)
  refine dn (k:=?_)
  refine dt 4 hX (k:=?_)
  repeat' (first|(refine stA hs (k:=?_);intro w hs)|refine Nx.h ?_|fail)
  refine dn (k:=?_)
  refine en (k:=?_)
  repeat' (first|refine Nx.h ?_|fail)
  first | refine rt (hq:=?_) | refine rt' (hq:=?_)
  refine ⟨?_,hs.only0 rfl⟩
  have h:=hB _ (fun e he=>hs.ro e (List.mem_append_left _ he))
  rw [← Int.sub_eq_add_neg] at h
  exact h
theorem bigCmp_ret (v u:Value) (x y:Int) (w0:World) (hBx:BigAt w0 v x) (hBy:BigAt w0 u y) (hx:InB x) (hy:InB y):Ret Tryz.prog 32 #[v,u] w0 fun v w'=>v = .int .i64 (cmpI x y)∧Only [] w0 w':=by
  obtain ⟨na,aa,la,ca,rfl⟩:=hBx.shape
  obtain ⟨nb,ab,lb,cb,rfl⟩:=hBy.shape
  have hs:=St.nil w0
  refine ret_of_xc Tryz.func32 (by kernel_rfl) rfl Tryz.ntmps32 rfl rfl rfl ?_
  repeat' (first|refine vs (k:=?_)|(refine bx hs (k:=?_);intro b w hz hs)|refine qRg ?_|refine Nx.h ?_|fail)
  (with_reducible apply xs_call);exact rfl;exact rfl;exact bigSub_ret _ _ x y _ (hBx.only (hs.only0 rfl)) (hBy.only (hs.only0 rfl)) hx hy
  rintro v w' ⟨hB,ho⟩;replace hs:=hs.call0 ho
  skip
  (with_reducible apply xs_call);exact rfl;exact rfl;exact bigSign_ret _ (x - y) _ hB
  rintro v w' ⟨rfl,ho⟩;replace hs:=hs.call0 ho
  repeat' (first|refine vs (k:=?_)|refine Nx.h ?_|fail)
  first | refine rt (hq:=?_) | refine rt' (hq:=?_)
  refine ⟨?_,hs.only0 rfl⟩
  have:cmpI (x - y) 0=cmpI x y:=by
    unfold cmpI
    repeat' split
    all_goals omega
  rw [this];rfl
end Go.Proofs.YtkbcfknnieggbaaGreatDoorX

namespace Go.Proofs.YtkbcfknnieggbaaGreatDoorX
open Go Go.RowKit
attribute [local irreducible] XS XC XA thenE blockE retE loopE loopS cutB cutN doneE SE
structure Dgs (X:Int) (xs:List Int) (n:Nat) (y:Int):Prop where
  len:xs.length=n
  ok:DOk xs
  y0:0≤y
  y1:y < 18446744073709551616
  sum:valD xs+10000 ^ n*y=X
  trim:y=0→Trim xs
theorem dgs_lt {X:Int} {xs:List Int} {n:Nat} {y:Int} (h:Dgs X xs n y) (hX:X < 18446744073709551616) (hy:0 < y):n < 5:=by
  rcases Nat.lt_or_ge n 5 with h5 | h5
  · exact h5
  · have h1:=pow_mono' h5
    have h2:=valD_nonneg h.ok
    have h3:(10000:Int) ^ n*1≤10000 ^ n*y:=Int.mul_le_mul_of_nonneg_left (by omega) (Int.le_of_lt (pow_pos' n))
    have h4:=h.sum
    omega
theorem dgs_next {X:Int} {xs:List Int} {n:Nat} {y:Int} (h:Dgs X xs n y) (hy:0 < y):Dgs X (xs ++ [y % 10000]) (n+1) (y / 10000):=by
  obtain ⟨h1,h2,h3,h4,h5,h6⟩:=h
  refine ⟨by simp [h1],h2.snoc (by omega) (by omega),by omega,by omega,?_,fun h0 d hd=>?_⟩
  · rw [valD_snoc,h1,Int.pow_succ]
    have e:=Int.mul_ediv_add_emod y 10000
    generalize y / 10000=q at *
    generalize y % 10000=r at *
    have:(10000:Int) ^ n*r+10000 ^ n*10000*q=10000 ^ n*y:=by rw [← e];grind
    omega
  · simp at hd;subst hd;omega
set_option maxHeartbeats 1000000 in
theorem bigU_ret (X:Int) (w0:World) (hX0:0≤X) (hX1:X < 18446744073709551616):Ret Tryz.prog 28 #[.int .u64 X] w0 fun v w'=>BigAt w' v X∧Only [] w0 w':=by
  have hs:=St.nil w0
  refine ret_of_xc Tryz.func28 (by kernel_rfl) rfl Tryz.ntmps28 rfl rfl rfl ?_
  refine xc_seq ?_
  refine xc_region ?_ ?_;exact rfl
  refine al hs (k:=?_);intro b2 w hz hs
  repeat' (first|refine Nx.h ?_|fail)
  refine xc_region ?_ ?_;exact rfl
  refine al hs (k:=?_);intro b3 w hz hs
  repeat' (first|refine Nx.h ?_|fail)
  refine xc_cutB (fun (_:Unit)=>[(2,.pointer (some ⟨b2,0,none⟩)),(3,.pointer (some ⟨b3,0,none⟩))]) (fun _ w=>∃ v xs n,Dgs X xs n 0∧OwnS w0 D0 [(b3,.cells #[.bool false,v] 82,true),(b2,.cells #[.bool false,.slice none 0 0] 82,true)] 3 1 v n (ints xs) w) ?_ ?_
  · refine xc_loopS (fun (s:Int × Value × List Int × Nat)=>[(2,.pointer (some ⟨b2,0,none⟩)),(3,.pointer (some ⟨b3,0,none⟩)),(0,.int .u64 s.1)])
      (fun s w=>Dgs X s.2.2.1 s.2.2.2 s.1∧OwnS w0 D0 [(b3,.cells #[.bool false,s.2.1] 82,true),(b2,.cells #[.bool false,.slice none 0 0] 82,true)] 3 1 s.2.1 s.2.2.2 (ints s.2.2.1) w)
      (fun s=>s.1.toNat) (X,.slice none 0 0,[],0) (by (repeat (first | exact agree_nil | (apply agree_cons;exact rfl)))) ⟨⟨rfl,DOk.nil,hX0,hX1,by simp [valD],fun _ d h=>by cases h⟩,.inl ⟨rfl,rfl,rfl,hs⟩⟩ fun s env w hI=>?_
    obtain ⟨hp,hO⟩:=hI
    clear hs
    generalize hy:s.1=y at *
    generalize hvv:s.2.1=v at *
    generalize hxs:s.2.2.1=xs at *
    generalize hnn:s.2.2.2=n at *
    have hy0:=hp.y0
    have hy1:=hp.y1
    repeat' (first|refine vs (k:=?_)|refine qRg ?_|refine Nx.h ?_|(refine xc_if rfl (fun hc=>?_) (fun hc=>?_))|fail)
    · have hlt:=dgs_lt hp hX1 hc
      have e10:IntKind.i64.wrap (y % 10000)=y % 10000:=i64_small (by omega) (by omega)
      rcases hO with ⟨rfl,hn,hx,hs⟩ | ⟨g,cap,cur,rfl,hcap,hcl,hxl,htk,hs⟩
      all_goals (
        repeat' (first|refine vs (k:=?_)|(refine bs hs (k:=?_);intro b w hz hs)|fail)
        rw [e10] at hs ⊢
        refine apd (k:=n) (xs:=ints xs) (news:=[.int .i64 (y % 10000)]) (by first | exact .inl ⟨rfl,hn,hx,hs⟩ | exact .inr ⟨_,_,_,rfl,hcap,hcl,hxl,htk,hs.swap⟩) (hk:=by omega) (hk':=by simp only [maxLen];omega) (kk:=?_)
        intro v' w hO' hv'
        rw [ints_snoc] at hO'
        clear hs
        rcases hO' with ⟨h,_⟩ | ⟨g',cap',cur',rfl,hcap',hcl',hxl',htk',hs⟩
        · exact absurd h hv'
        repeat' (first|refine vs (k:=?_)|(refine st hs (k:=?_);intro w hs)|refine qRg ?_|refine Nx.h ?_|fail)
        exact loopS_next (y / 10000,_,xs ++ [y % 10000],n+1) (by simp only [hy];omega) (by (repeat (first | exact agree_nil | (apply agree_cons;exact rfl)))) ⟨dgs_next hp hc,.inr ⟨_,_,_,rfl,hcap',hcl',hxl',htk',hs⟩⟩)
    · have hy00:y=0:=by omega
      subst hy00
      exact cutB_exit () (by (repeat (first | exact agree_nil | (apply agree_cons;exact rfl)))) ⟨v,xs,n,hp,hO⟩
  · rintro _ env w ⟨v,xs,n,hp,hO⟩
    clear hs
    rcases hO with ⟨rfl,hn,hx,hs⟩ | ⟨g,cap,cur,rfl,hcap,hcl,hxl,htk,hs⟩
    all_goals (
      repeat' (first|refine vs (k:=?_)|(refine stA hs (k:=?_);intro w hs)|refine qRg ?_|refine Nx.h ?_|fail)
      first | refine rt (hq:=?_) | refine rt' (hq:=?_)
      have hv:valD xs=X:=by have:=hp.sum;simpa using this
      have hd:=own_dat (by first | exact .inl ⟨rfl,hn,hx,hs⟩ | exact .inr ⟨_,_,_,rfl,hcap,hcl,hxl,htk,hs⟩) hp.len.symm
      exact ⟨⟨false,_,xs,rfl,hd,hp.ok,hp.trim rfl,fun _=>rfl,by simp [sg,hv]⟩,hs.only0 rfl⟩)
end Go.Proofs.YtkbcfknnieggbaaGreatDoorX

namespace Go.Proofs.YtkbcfknnieggbaaGreatDoorX
open Go Go.RowKit
attribute [local irreducible] XS XC XA thenE blockE retE loopE loopS cutB cutN doneE SE
theorem BigAt.turned {w:World} {n:Bool} {sl:Value} {y:Int} (h:BigAt w (.agg #[.bool n,sl]) y) (hy:0 < y):BigAt w (.agg #[.bool true,sl]) (-y):=by
  obtain ⟨neg,sl',ds,e,hD,hok,ht,hz,rfl⟩:=h
  simp only [Value.agg.injEq,Array.mk.injEq,List.cons.injEq,Value.bool.injEq,and_true] at e
  obtain ⟨rfl,rfl⟩:=e
  have h0:=valD_nonneg hok
  cases n
  · refine ⟨true,sl,ds,rfl,hD,hok,ht,fun e=>?_,rfl⟩
    subst e;simp [sg,valD] at hy
  · simp only [sg,cond_true] at hy;omega
theorem bigN_ret (x:Int) (w0:World) (h0:-9223372036854775808≤x) (h1:x < 9223372036854775808):Ret Tryz.prog 124 #[.int .i64 x] w0 fun v w'=>BigAt w' v x∧Only [] w0 w':=by
  have hs:=St.nil w0
  refine ret_of_xc Tryz.func124 (by kernel_rfl) rfl Tryz.ntmps124 rfl rfl rfl ?_
  repeat' (first|refine vs (k:=?_)|(refine al hs (k:=?_);intro b w hz hs)|refine qRg ?_|refine Nx.h ?_|(refine xc_if rfl (fun hc=>?_) (fun hc=>?_))|fail)
  · rw [show IntKind.u64.wrap x=x from wrap_small (by omega) (by omega)]
    (with_reducible apply xs_call);exact rfl;exact rfl;exact bigU_ret x _ (by omega) (by omega)
    rintro v w' ⟨hB,ho⟩;replace hs:=hs.call0 ho
    obtain ⟨n1,a1,l1,c1,rfl⟩:=hB.shape
    obtain ⟨R,hs,hB⟩:=hB.read hs rfl
    repeat' (first|(refine stA hs (k:=?_);intro w hs)|refine Nx.h ?_|fail)
    first | refine rt (hq:=?_) | refine rt' (hq:=?_)
    exact ⟨hB _ (fun e he=>hs.ro e (List.mem_append_left _ he)),hs.only0 rfl⟩
  · have e1:IntKind.u64.wrap (IntKind.u64.wrap (IntKind.i64.wrap (0 - IntKind.i64.wrap (x+1)))+1)=-x:=by simp only [wrap_u64,wrap_i64];omega
    rw [e1]
    (with_reducible apply xs_call);exact rfl;exact rfl;exact bigU_ret (-x) _ (by omega) (by omega)
    rintro v w' ⟨hB,ho⟩;replace hs:=hs.call0 ho
    obtain ⟨n1,a1,l1,c1,rfl⟩:=hB.shape
    obtain ⟨R,hs,hB⟩:=hB.read hs rfl
    repeat' (first|refine vs (k:=?_)|(refine st hs (k:=?_);intro w hs)|(refine stA hs (k:=?_);intro w hs)|(refine al hs (k:=?_);intro b w hz hs)|refine qRg ?_|refine Nx.h ?_|fail)
    first | refine rt (hq:=?_) | refine rt' (hq:=?_)
    refine ⟨?_,hs.only0 rfl⟩
    have h:=(hB _ (fun e he=>hs.ro e (List.mem_append_left _ he))).turned (by omega)
    rw [Int.neg_neg] at h
    exact h
end Go.Proofs.YtkbcfknnieggbaaGreatDoorX

namespace Go.Proofs.YtkbcfknnieggbaaGreatDoorX
open Go Go.RowKit
attribute [local irreducible] XS XC XA thenE blockE retE loopE loopS cutB cutN doneE SE
end Go.Proofs.YtkbcfknnieggbaaGreatDoorX

namespace Go.Proofs.YtkbcfknnieggbaaGreatDoorX
theorem valD_set:∀ (ds:List Int) (j:Nat) (d:Int),j < ds.length→valD (ds.set j d)=valD ds+10000 ^ j*(d - dig ds j)
  | [],_,_,h=>absurd h (Nat.not_lt_zero _)
  | x :: ds,0,d,_=>by simp [valD,dig];omega
  | x :: ds,j+1,d,h=>by
    simp only [List.set_cons_succ,valD,valD_set ds j d (Nat.lt_of_succ_lt_succ h)]
    have:dig (x :: ds) (j+1)=dig ds j:=by simp [dig]
    rw [this,Int.pow_succ]
    grind
theorem DOk.set {ds:List Int} {j:Nat} {d:Int} (h:DOk ds) (h0:0≤d) (h1:d < 10000):DOk (ds.set j d):=fun x hx=>by
  rcases List.mem_or_eq_of_mem_set hx with hx | rfl
  · exact h x hx
  · exact ⟨h0,h1⟩
theorem dig_set_ne {ds:List Int} {j k:Nat} {d:Int} (h:j≠k):dig (ds.set j d) k=dig ds k:=by
  simp [dig,List.getD_eq_getElem?_getD,List.getElem?_set_ne h]
theorem valD_replicate (n:Nat):valD (List.replicate n 0)=0:=by
  induction n with
  | zero=>rfl
  | succ n ih=>simp [List.replicate_succ,valD,ih]
theorem DOk.replicate (n:Nat):DOk (List.replicate n 0):=fun d hd=>by rw [(List.mem_replicate.1 hd).2];decide
structure MulO (A B O:List Int) (i:Nat):Prop where
  len:O.length=A.length+B.length+1
  ok:DOk O
  le:i≤A.length
  zero:∀ j,i+B.length≤j→dig O j=0
  sum:valD O=valD (A.take i)*valD B
structure MulI (A B O:List Int) (i k:Nat) (c:Int):Prop where
  len:O.length=A.length+B.length+1
  ok:DOk O
  lt:i < A.length
  kle:k≤B.length+1
  c0:0≤c
  c1:c≤9999
  last:B.length < k→c=0
  zero:∀ j,i+B.length < j→dig O j=0
  zero':k≤B.length→dig O (i+B.length)=0
  sum:valD O+10000 ^ (i+k)*c=valD (A.take i)*valD B+10000 ^ i*dig A i*valD (B.take k)
theorem mul_in {A B O:List Int} {i:Nat} (h:MulO A B O i) (hi:i < A.length):MulI A B O i 0 0 :=
  ⟨h.len,h.ok,hi,by omega,by decide,by decide,fun _=>rfl,fun j hj=>h.zero j (by omega),fun _=>h.zero _ (by omega),by rw [h.sum];simp [valD]⟩
theorem mul_out {A B O:List Int} {i k:Nat} {c:Int} (h:MulI A B O i k c) (h1:B.length≤k) (h2:¬ 0 < c):MulO A B O (i+1):=by
  have hc:c=0:=by have:=h.c0;omega
  have hs:=h.sum
  rw [hc,List.take_of_length_le h1] at hs
  refine ⟨h.len,h.ok,h.lt,fun j hj=>h.zero j (by omega),?_⟩
  rw [valD_take,Int.add_mul]
  simpa using hs
theorem mul_idx {A B O:List Int} {i k:Nat} {c:Int} (h:MulI A B O i k c) (hgo:k < B.length∨0 < c):i+k < O.length∧k≤B.length:=by
  have h1:=h.len
  have h2:=h.lt
  have h3:=h.last
  have:k≤B.length:=by
    rcases Nat.lt_or_ge B.length k with h4 | h4
    · have:=h3 h4;omega
    · exact h4
  exact ⟨by omega,this⟩
theorem mul_next {A B O:List Int} {i k:Nat} {c s:Int} (hA:DOk A) (hB:DOk B) (h:MulI A B O i k c) (hgo:k < B.length∨0 < c) (hs:s=dig O (i+k)+dig A i*dig B k+c) :
    0≤s∧s≤99999999∧MulI A B (O.set (i+k) (s % 10000)) i (k+1) (s / 10000):=by
  obtain ⟨hidx,hk⟩:=mul_idx h hgo
  obtain ⟨h1,h2,h3,h4,h5,h6,h7,h8,h9,h10⟩:=h
  have a1:=dig_rng hA i
  have b1:=dig_rng hB k
  have o1:=dig_rng h2 (i+k)
  have p0:0≤dig A i*dig B k:=Int.mul_nonneg a1.1 b1.1
  have p1:dig A i*dig B k≤9999*9999:=Int.mul_le_mul (by omega) (by omega) b1.1 (by decide)
  refine ⟨by omega,by omega,by simp [h1],h2.set (by omega) (by omega),h3,by omega,by omega,by omega,fun hl=>?_,fun j hj=>?_,fun hk'=>?_,?_⟩
  · have hkb:k=B.length:=by omega
    have e1:dig B k=0:=dig_ge (by omega)
    have e2:dig O (i+k)=0:=by rw [hkb];exact h9 (by omega)
    rw [e1,e2] at hs
    omega
  · rw [dig_set_ne (by omega)];exact h8 j hj
  · rw [dig_set_ne (by omega)];exact h9 (by omega)
  · rw [valD_set _ _ _ hidx,valD_take]
    have e:=Int.mul_ediv_add_emod s 10000
    have e2:(10000:Int) ^ (i+(k+1))=10000 ^ (i+k)*10000:=by rw [← Nat.add_assoc,Int.pow_succ]
    have e3:(10000:Int) ^ (i+k)=10000 ^ i*10000 ^ k:=Int.pow_add ..
    generalize s / 10000=q at *
    generalize s % 10000=r at *
    rw [e2]
    rw [e3] at h10 ⊢
    subst hs
    grind
end Go.Proofs.YtkbcfknnieggbaaGreatDoorX

namespace Go.Proofs.YtkbcfknnieggbaaGreatDoorX
open Go Go.RowKit
attribute [local irreducible] XS XC XA thenE blockE retE loopE loopS cutB cutN doneE SE
theorem ints_get {O:List Int} {j:Nat} (h:j < O.length):(ints O)[j]?=some (.int .i64 (dig O j)):=by simp [ints,dig,h]
theorem ints_set (O:List Int) (j:Nat) (d:Int):(ints O).set j (.int .i64 d)=ints (O.set j d):=by simp [ints,List.map_set]
theorem ints_zero (n:Nat):List.replicate n (Value.int .i64 0)=ints (List.replicate n 0):=by simp [ints]
set_option maxHeartbeats 2000000 in
theorem bigMul_ret (v u:Value) (x y:Int) (w0:World) (hBx:BigAt w0 v x) (hBy:BigAt w0 u y) (hx:InB x) (hy:InB y):Ret Tryz.prog 27 #[v,u] w0 fun v w'=>BigAt w' v (x*y)∧Only [] w0 w':=by
  obtain ⟨na,sa,A,rfl,hDA,hA,tA,zA,rfl⟩:=hBx
  obtain ⟨nb,sb,B,rfl,hDB,hB0,tB,zB,rfl⟩:=hBy
  have lA:A.length≤60:=len_in hA tA hx
  have lB:B.length≤60:=len_in hB0 tB hy
  obtain ⟨ada,ca,rfl,hDA'⟩:=id hDA
  obtain ⟨adb,cb,rfl,hDB'⟩:=id hDB
  have hs:=St.nil w0
  refine ret_of_xc Tryz.func27 (by kernel_rfl) rfl Tryz.ntmps27 rfl rfl rfl ?_
  refine xc_seq ?_
  refine xc_region ?_ ?_;exact rfl
  refine bx hs (k:=?_);intro b2 w hz hs
  refine bx hs (k:=?_);intro b3 w hz hs
  refine al hs (k:=?_);intro b4 w hz hs
  have eN:IntKind.i64.wrap (IntKind.i64.wrap ((A.length:Int)+(B.length:Nat))+1)=((A.length+B.length+1:Nat):Int):=by
    have e1:IntKind.i64.wrap ((A.length:Int)+(B.length:Nat))=(A.length:Int)+(B.length:Nat):=i64_small (by omega) (by omega)
    have e2:(A.length:Int)+(B.length:Nat)+1=((A.length+B.length+1:Nat):Int):=by omega
    rw [e1,e2]
    exact i64_small (by omega) (by omega)
  repeat' (first|refine vs (k:=?_)|refine qRg ?_|refine Nx.h ?_|fail)
  rw [eN]
  refine mkS hs (hb:=by omega) (hm:=by omega) (k:=?_);intro b5 w hz hs
  rw [ints_zero] at hs
  repeat' (first|refine vs (k:=?_)|refine qRg ?_|refine Nx.h ?_|fail)
  refine xc_cutB (fun (_:Unit)=>[(2,.pointer (some ⟨b2,0,none⟩)),(3,.pointer (some ⟨b3,0,none⟩)),(4,.pointer (some ⟨b4,0,none⟩)),(5,.slice (some ⟨b5,0,none⟩) (A.length+B.length+1) (A.length+B.length+1))]) (fun _ w=>∃ O,MulO A B O A.length∧St w0 D0 [(b5,.cells (ints O).toArray 3,true),(b4,.cells #[.bool false,.slice none 0 0] 82,true),(b3,.cells #[.bool nb,.slice adb B.length cb] 82,true),(b2,.cells #[.bool na,.slice ada A.length ca] 82,true)] w) ?_ ?_
  · refine xc_loopS (fun (s:Nat × List Int)=>[(2,.pointer (some ⟨b2,0,none⟩)),(3,.pointer (some ⟨b3,0,none⟩)),(4,.pointer (some ⟨b4,0,none⟩)),(5,.slice (some ⟨b5,0,none⟩) (A.length+B.length+1) (A.length+B.length+1)),(21,.slice ada A.length ca),(22,.int .i64 (A.length:Nat)),(23,.int .i64 (s.1:Nat))])
      (fun s w=>MulO A B s.2 s.1∧St w0 D0 [(b5,.cells (ints s.2).toArray 3,true),(b4,.cells #[.bool false,.slice none 0 0] 82,true),(b3,.cells #[.bool nb,.slice adb B.length cb] 82,true),(b2,.cells #[.bool na,.slice ada A.length ca] 82,true)] w)
      (fun s=>A.length - s.1) (0,List.replicate (A.length+B.length+1) 0) (by (repeat (first | exact agree_nil | (apply agree_cons;exact rfl)))) ⟨⟨by simp,DOk.replicate _,by omega,fun j _=>by simp [dig,List.getD_eq_getElem?_getD,List.getElem?_replicate];split <;> rfl,by rw [valD_replicate];simp [valD]⟩,hs⟩ fun s env w hI=>?_
    clear hs
    obtain ⟨hp,hs⟩:=hI
    generalize hsi:s.1=i at *
    generalize hsO:s.2=O at *
    repeat' (first|refine vs (k:=?_)|refine qRg ?_|refine Nx.h ?_|(refine xc_if rfl (fun hc=>?_) (fun hc=>?_))|fail)
    · have hiA:i < A.length:=by omega
      obtain ⟨b',off,cs,fz,rfl,h1,h2,h3⟩:=hDA' (by intro e;subst e;simp at hiA)
      refine ix (h0:=(by omega)) (h1:=hc) (k:=?_)
      refine lh (cs:=cs) (off:=off+((i:Nat):Int).toNat*1) ((hs.only0 rfl).block h2 (by simp)) (v := .int .i64 (dig A i)) (by simpa using h3 i _ (dig_get hiA)) (k:=?_)
      repeat' (first|refine vs (k:=?_)|refine qRg ?_|refine Nx.h ?_|fail)
      have ei:IntKind.i64.wrap ((i:Int)+1)=((i+1:Nat):Int):=by
        have e1:(i:Int)+1=((i+1:Nat):Int):=by omega
        rw [e1]
        exact i64_small (by omega) (by omega)
      refine xc_cutB (fun (_:Unit)=>[(2,.pointer (some ⟨b2,0,none⟩)),(3,.pointer (some ⟨b3,0,none⟩)),(4,.pointer (some ⟨b4,0,none⟩)),(5,.slice (some ⟨b5,0,none⟩) (A.length+B.length+1) (A.length+B.length+1)),(21,.slice (some ⟨b',off,none⟩) A.length ca),(22,.int .i64 (A.length:Nat)),(23,.int .i64 (i:Nat))]) (fun _ w=>∃ O,MulO A B O (i+1)∧St w0 D0 [(b5,.cells (ints O).toArray 3,true),(b4,.cells #[.bool false,.slice none 0 0] 82,true),(b3,.cells #[.bool nb,.slice adb B.length cb] 82,true),(b2,.cells #[.bool na,.slice (some ⟨b',off,none⟩) A.length ca] 82,true)] w) ?_ ?_
      · refine xc_loopS (fun (s:Nat × Int × List Int)=>[(2,.pointer (some ⟨b2,0,none⟩)),(3,.pointer (some ⟨b3,0,none⟩)),(4,.pointer (some ⟨b4,0,none⟩)),(5,.slice (some ⟨b5,0,none⟩) (A.length+B.length+1) (A.length+B.length+1)),(21,.slice (some ⟨b',off,none⟩) A.length ca),(22,.int .i64 (A.length:Nat)),(23,.int .i64 (i:Nat)),(6,.int .i64 (i:Nat)),(7,.int .i64 (dig A i)),(8,.int .i64 s.2.1),(9,.int .i64 (s.1:Nat))])
          (fun s w=>MulI A B s.2.2 i s.1 s.2.1∧St w0 D0 [(b5,.cells (ints s.2.2).toArray 3,true),(b4,.cells #[.bool false,.slice none 0 0] 82,true),(b3,.cells #[.bool nb,.slice adb B.length cb] 82,true),(b2,.cells #[.bool na,.slice (some ⟨b',off,none⟩) A.length ca] 82,true)] w)
          (fun s=>B.length+2 - s.1) (0,0,O) (by (repeat (first | exact agree_nil | (apply agree_cons;exact rfl)))) ⟨mul_in hp hiA,hs⟩ fun s2 env w hI=>?_
        clear hs
        obtain ⟨hm,hs⟩:=hI
        generalize hsk:s2.1=k at *
        generalize hsc:s2.2.1=c at *
        generalize hsO2:s2.2.2=O2 at *
        refine xc_seq ?_
        refine xc_seq ?_
        refine xc_cutN (fun (_:Unit)=>[(2,.pointer (some ⟨b2,0,none⟩)),(3,.pointer (some ⟨b3,0,none⟩)),(4,.pointer (some ⟨b4,0,none⟩)),(5,.slice (some ⟨b5,0,none⟩) (A.length+B.length+1) (A.length+B.length+1)),(21,.slice (some ⟨b',off,none⟩) A.length ca),(22,.int .i64 (A.length:Nat)),(23,.int .i64 (i:Nat)),(6,.int .i64 (i:Nat)),(7,.int .i64 (dig A i)),(8,.int .i64 c),(9,.int .i64 (k:Nat)),(36,.bool (decide (k < B.length∨0 < c)))]) (fun _ w'=>w'=w) ?_ ?_
        · refine xc_region ?_ ?_;exact rfl
          refine vs (k:=?_)
          refine vs (k:=?_)
          refine vs (k:=?_)
          refine vs (k:=?_)
          refine vs (k:=?_)
          refine vs (k:=?_)
          refine xs_late 33 rfl ?_;intro c h33;cases c
          · repeat' (first|refine vs (k:=?_)|refine Nx.h ?_|fail)
            have e36:decide (0 < c)=decide (k < B.length∨0 < c):=by
              have h1:=of_decide_eq_false h33
              apply decide_eq_decide.2
              omega
            exact cutN_normal () (by (repeat (first | exact agree_nil | (apply agree_cons;first | exact rfl | exact congrArg Value.bool e36)))) rfl
          · repeat' (first|refine vs (k:=?_)|refine ps (k:=?_)|refine Nx.h ?_|fail)
            have e36:true=decide (k < B.length∨0 < c):=by
              have h1:=of_decide_eq_true h33
              exact (decide_eq_true (by omega)).symm
            exact cutN_normal () (by (repeat (first | exact agree_nil | (apply agree_cons;first | exact rfl | exact congrArg Value.bool e36)))) rfl
        rintro _ env _ rfl
        repeat' (first|refine Nx.h ?_|(refine xc_if rfl (fun hc=>?_) (fun hc=>?_))|fail)
        · obtain ⟨hs0,hs1,hnx⟩:=mul_next hA hB0 hm hc rfl
          obtain ⟨hidx,hkB⟩:=mul_idx hm hc
          have hlen:=hm.len
          have hc0:=hm.c0
          have hc1:=hm.c1
          have a1:=dig_rng hA i
          have b1:=dig_rng hB0 k
          have o1:=dig_rng hm.ok (i+k)
          have p0:0≤dig A i*dig B k:=Int.mul_nonneg a1.1 b1.1
          have p1:dig A i*dig B k≤9999*9999:=Int.mul_le_mul (by omega) (by omega) b1.1 (by decide)
          have eik:IntKind.i64.wrap ((i:Int)+(k:Nat))=((i+k:Nat):Int):=by
            have e1:(i:Int)+(k:Nat)=((i+k:Nat):Int):=by omega
            rw [e1]
            exact i64_small (by omega) (by omega)
          have ek:IntKind.i64.wrap ((k:Int)+1)=((k+1:Nat):Int):=by
            have e1:(k:Int)+1=((k+1:Nat):Int):=by omega
            rw [e1]
            exact i64_small (by omega) (by omega)
          have eP:IntKind.i64.wrap (dig A i*dig B k)=dig A i*dig B k:=i64_small (by omega) (by omega)
          have eQ:IntKind.i64.wrap (dig O2 (i+k)+dig A i*dig B k)=dig O2 (i+k)+dig A i*dig B k:=i64_small (by omega) (by omega)
          have eR:IntKind.i64.wrap (dig O2 (i+k)+dig A i*dig B k+c)=dig O2 (i+k)+dig A i*dig B k+c:=i64_small (by omega) (by omega)
          have hget:(ints O2)[0+((i+k:Nat):Int).toNat*1]?=some (.int .i64 (dig O2 (i+k))):=by
            have:0+((i+k:Nat):Int).toNat*1=i+k:=by omega
            rw [this]
            exact ints_get hidx
          have hput:PutL (ints O2) (0+((i+k:Nat):Int).toNat*1) [.int .i64 ((dig O2 (i+k)+dig A i*dig B k+c) % 10000)] (ints (O2.set (i+k) ((dig O2 (i+k)+dig A i*dig B k+c) % 10000))):=by
            have:0+((i+k:Nat):Int).toNat*1=i+k:=by omega
            rw [this,← ints_set]
            exact putL_set (by simpa [ints] using hidx)
          refine dr [] hs (k:=?_);intro hX w hs
          refine tk 0 hX (k:=?_)
          refine tk 1 hX (k:=?_)
          refine tk 2 hX (k:=?_)
          refine tk 3 hX (k:=?_)
          rw [eik]
          refine tk 4 hX (hr:=fun w' hH=>r_indexAddr tabOk rfl rfl rfl (by omega) (by omega)) (k:=?_)
          refine tk 5 hX (v := .int .i64 (dig O2 (i+k))) (hr:=fun w' hH=>r_load tabOk rfl rfl (hH rfl) At.head hget) (k:=?_)
          refine tk 6 hX (k:=?_)
          refine tk 7 hX (k:=?_)
          refine tk 8 hX (k:=?_)
          refine tk 12 hX (k:=?_)
          refine dt 9 hX (k:=?_)
          (with_reducible apply xs_call);exact rfl;exact rfl;exact digit_ret nb _ B _ (hDB.only (hs.only0 rfl)) k
          rintro v w' ⟨rfl,ho⟩;replace hs:=hs.call0 ho;repeat' (first|refine Nx.h ?_|fail)
          refine dn (k:=?_)
          refine tk 10 hX (k:=?_)
          rw [eP]
          refine tk 11 hX (k:=?_)
          rw [eQ]
          refine tk 13 hX (k:=?_)
          rw [eR]
          refine tk 14 hX (k:=?_)
          refine en (k:=?_)
          repeat' (first|refine vs (k:=?_)|refine qRg ?_|refine Nx.h ?_|fail)
          rw [eik]
          refine ix (h0:=(by omega)) (h1:=(by omega)) (k:=?_)
          refine st hs (hA:=At.head) (hc:=hput) (k:=?_);intro w hs
          repeat' (first|refine vs (k:=?_)|refine qRg ?_|refine Nx.h ?_|fail)
          exact loopS_next (k+1,(dig O2 (i+k)+dig A i*dig B k+c) / 10000,O2.set (i+k) ((dig O2 (i+k)+dig A i*dig B k+c) % 10000)) (by simp only [hsk];omega) (by (repeat (first | exact agree_nil | (apply agree_cons;first | exact rfl | exact congrArg (Value.int .i64) ek)))) ⟨hnx,hs⟩
        · exact cutB_exit () (by (repeat (first | exact agree_nil | (apply agree_cons;exact rfl)))) ⟨O2,mul_out hm (by omega) (by omega),hs⟩
      · rintro _ env w ⟨O2,hp2,hs⟩
        repeat' (first|refine vs (k:=?_)|refine qRg ?_|refine Nx.h ?_|fail)
        exact loopS_next (i+1,O2) (by simp only [hsi];omega) (by (repeat (first | exact agree_nil | (apply agree_cons;first | exact rfl | exact congrArg (Value.int .i64) ei)))) ⟨hp2,hs⟩
    · have hi:i=A.length:=by have:=hp.le;omega
      subst hi
      exact cutB_exit () (by (repeat (first | exact agree_nil | (apply agree_cons;exact rfl)))) ⟨O,hp,hs⟩
  · rintro _ env w ⟨O,hp,hs⟩
    have hd:DAt w (.slice (some ⟨b5,0,none⟩) (A.length+B.length+1) (A.length+B.length+1)) O:=by
      refine ⟨_,_,by rw [hp.len],fun _=>⟨b5,0,ints O,(0,0),rfl,by rw [hp.len];exact Nat.le_refl _,hs.get At.head,fun i d hi=>by simp [ints,hi]⟩⟩
    repeat' (first|refine vs (k:=?_)|refine qRg ?_|refine Nx.h ?_|fail)
    (with_reducible apply xs_call);exact rfl;exact rfl;exact trim_ret (na != nb) _ O _ hd hp.ok (by rw [hp.len];omega)
    rintro v w' ⟨hB,ho⟩;replace hs:=hs.call0 ho
    obtain ⟨n1,a1,l1,c1,rfl⟩:=hB.shape
    replace hs:=hs.forgetNew
    obtain ⟨R,hs,hB⟩:=hB.read hs rfl
    repeat' (first|(refine stA hs (k:=?_);intro w hs)|refine Nx.h ?_|fail)
    first | refine rt (hq:=?_) | refine rt' (hq:=?_)
    refine ⟨?_,hs.only0 rfl⟩
    have h:=hB _ (fun e he=>hs.ro e (List.mem_append_left _ he))
    have hsum:=hp.sum
    rw [List.take_length] at hsum
    rw [hsum] at h
    have e:sg (na != nb) (valD A*valD B)=sg na (valD A)*sg nb (valD B):=by cases na <;> cases nb <;> simp [sg,Int.neg_mul,Int.mul_neg]
    rw [← e]
    exact h
end Go.Proofs.YtkbcfknnieggbaaGreatDoorX

namespace Go.Proofs.YtkbcfknnieggbaaGreatDoorX
open Go Go.RowKit
attribute [local irreducible] XS XC XA thenE blockE retE loopE loopS cutB cutN doneE SE
theorem inB_small {x:Int} (h0:-1000000000000000000000000000000000000000000000000000000000000000000000000000000≤x) (h1:x≤1000000000000000000000000000000000000000000000000000000000000000000000000000000):InB x:=by
  have:(1000000000000000000000000000000000000000000000000000000000000000000000000000000:Int) < 10000 ^ 60:=by decide
  exact ⟨by omega,by omega⟩
set_option maxHeartbeats 1000000 in
theorem bigWide_ret (hi lo:Int) (h0:-9223372036854775808≤hi) (h1:hi < 9223372036854775808) (h2:0≤lo) (h3:lo < 18446744073709551616) (w0:World):Ret Tryz.prog 69 #[.int .i64 hi,.int .u64 lo] w0 fun v w'=>BigAt w' v (hi*18446744073709551616+lo)∧Only [] w0 w':=by
  have hs:=St.nil w0
  refine ret_of_xc Tryz.func69 (by kernel_rfl) rfl Tryz.ntmps69 rfl rfl rfl ?_
  refine xc_seq ?_
  refine xc_region ?_ ?_;exact rfl
  refine al hs (k:=?_);intro b4 w hz hs
  repeat' (first|refine qRg ?_|refine Nx.h ?_|fail)
  (with_reducible apply xs_call);exact rfl;exact rfl;exact bigU_ret 4294967296 _ (by decide) (by decide)
  rintro v w' ⟨hB1,ho⟩;replace hs:=hs.call0 ho
  skip
  (with_reducible apply xs_call);exact rfl;exact rfl;exact bigU_ret 4294967296 _ (by decide) (by decide)
  rintro v w' ⟨hB2,ho⟩;replace hs:=hs.call0 ho
  skip
  (with_reducible apply xs_call);exact rfl;exact rfl;exact bigMul_ret _ _ 4294967296 4294967296 _ (hB1.only ho) hB2 (inB_small (by decide) (by decide)) (inB_small (by decide) (by decide))
  rintro v w' ⟨hB,ho⟩;replace hs:=hs.call0 ho
  obtain ⟨n1,a1,l1,c1,rfl⟩:=hB.shape
  obtain ⟨R,hs,hB⟩:=hB.read hs rfl
  repeat' (first|(refine stA hs (k:=?_);intro w hs)|(refine al hs (k:=?_);intro b w hz hs)|refine Nx.h ?_|fail)
  refine dr [7] hs (k:=?_);intro hX w hs
  refine tk 0 hX (k:=?_)
  refine tk 2 hX (k:=?_)
  refine tk 4 hX (k:=?_)
  refine dt 1 hX (k:=?_)
  (with_reducible apply xs_call);exact rfl;exact rfl;exact bigN_ret hi _ h0 h1
  rintro v w' ⟨hN,ho⟩;replace hs:=hs.call0 ho
  repeat' (first|refine Nx.h ?_|fail)
  refine dn (k:=?_)
  refine dt 3 hX (k:=?_)
  (with_reducible apply xs_call);exact rfl;exact rfl;exact bigMul_ret _ _ hi (4294967296*4294967296) _ hN (hB _ (fun e he=>hs.ro e (List.mem_append_left _ he))) (inB_small (by omega) (by omega)) (inB_small (by decide) (by decide))
  rintro v w' ⟨hM,ho⟩;replace hs:=hs.call0 ho
  repeat' (first|refine Nx.h ?_|fail)
  refine dn (k:=?_)
  refine dt 5 hX (k:=?_)
  (with_reducible apply xs_call);exact rfl;exact rfl;exact bigU_ret lo _ h2 h3
  rintro v w' ⟨hU,ho⟩;replace hs:=hs.call0 ho
  repeat' (first|refine Nx.h ?_|fail)
  refine dn (k:=?_)
  refine dt 6 hX (k:=?_)
  (with_reducible apply xs_call);exact rfl;exact rfl;exact bigAdd_ret _ _ (hi*(4294967296*4294967296)) lo _ (hM.only ho) hU (inB_small (by omega) (by omega)) (inB_small (by omega) (by omega))
  rintro v w' ⟨hA,ho⟩;replace hs:=hs.call0 ho
  obtain ⟨n2,a2,l2,c2,rfl⟩:=hA.shape
  obtain ⟨R2,hs,hA⟩:=hA.read hs rfl
  repeat' (first|refine Nx.h ?_|fail)
  refine dn (k:=?_)
  refine dt 7 hX (k:=?_)
  repeat' (first|(refine stA hs (k:=?_);intro w hs)|refine Nx.h ?_|fail)
  refine dn (k:=?_)
  refine en (k:=?_)
  repeat' (first|refine Nx.h ?_|fail)
  first | refine rt (hq:=?_) | refine rt' (hq:=?_)
  refine ⟨?_,hs.only0 rfl⟩
  have h:=hA _ (fun e he=>hs.ro e (List.mem_append_left _ he))
  exact h
theorem lawOf_ret (x:Int) (hx:InW x) (w0:World):Ret Tryz.prog 29 #[wv x] w0 fun v w'=>BigAt w' v x∧Only [] w0 w':=by
  obtain ⟨hx1,hx2⟩:=hx
  have hs:=St.nil w0
  refine ret_of_xc Tryz.func29 (by kernel_rfl) rfl Tryz.ntmps29 rfl rfl rfl ?_
  repeat' (first|refine vs (k:=?_)|(refine al hs (k:=?_);intro b w hz hs)|(refine bx hs (k:=?_);intro b w hz hs)|refine qRg ?_|refine Nx.h ?_|fail)
  (with_reducible apply xs_call);exact rfl;exact rfl;exact bigWide_ret _ _ (by omega) (by omega) (by omega) (by omega) _
  rintro v w' ⟨hB,ho⟩;replace hs:=hs.call0 ho
  obtain ⟨n1,a1,l1,c1,rfl⟩:=hB.shape
  obtain ⟨R,hs,hB⟩:=hB.read hs rfl
  repeat' (first|(refine stA hs (k:=?_);intro w hs)|refine Nx.h ?_|fail)
  first | refine rt (hq:=?_) | refine rt' (hq:=?_)
  refine ⟨?_,hs.only0 rfl⟩
  have h:=hB _ (fun e he=>hs.ro e (List.mem_append_left _ he))
  rw [show x / 18446744073709551616*18446744073709551616+x % 18446744073709551616=x by omega] at h
  exact h
end Go.Proofs.YtkbcfknnieggbaaGreatDoorX

/- The plain model of the nodes' program: bits, sums, stuffing, frames, wires, the scanning machine, counters, a node. No Go in it. -/
set_option linter.unusedVariables false
set_option linter.unusedSimpArgs false
namespace Om

/-- A bit as Go's byte. -/
def bi (b : Bool) : Int := if b then 1 else 0

/-! ### bits -/
def bitsOf (n : Nat) : Nat → List Bool
  | 0 => []
  | s + 1 => n.testBit s :: bitsOf n s
def num (l : List Bool) : Nat := l.foldl (fun n b => 2 * n + b.toNat) 0
def bytesBits : List UInt8 → List Bool
  | [] => []
  | b :: r => bitsOf b.toNat 8 ++ bytesBits r
def pack : List Bool → List UInt8
  | a :: b :: c :: d :: e :: f :: g :: h :: r => UInt8.ofNat (num [a, b, c, d, e, f, g, h]) :: pack r
  | _ => []

/-! ### sums -/
def crcOne (size poly sum : Nat) (b : Bool) : Nat :=
  if sum.testBit (size - 1) != b then (sum * 2 % 2 ^ size) ^^^ poly else sum * 2 % 2 ^ size
def crcRun (size poly sum : Nat) (l : List Bool) : Nat := l.foldl (crcOne size poly) sum
def crcSize : Nat → Nat
  | 1 => 15 | 2 => 17 | 3 => 21 | 4 => 13 | 5 => 32 | _ => 0
def crcPoly : Nat → Nat
  | 1 => 0x4599 | 2 => 0x1685B | 3 => 0x102899 | 4 => 0x19E7 | 5 => 0xF4ACFB13 | _ => 0
def crcStart : Nat → Nat
  | 1 => 0 | 2 => 0x10000 | 3 => 0x100000 | 4 => 1 | 5 => 1 | _ => 0
def crcSum (k : Nat) (l : List Bool) : Nat := crcRun (crcSize k) (crcPoly k) (crcStart k) l
def crcAdd (k : Nat) (l : List Bool) : List Bool := l ++ bitsOf (crcSum k l) (crcSize k)
def crcFits (k : Nat) (l : List Bool) : Bool :=
  if l.length < crcSize k then false else num (l.drop (l.length - crcSize k)) == crcSum k (l.take (l.length - crcSize k))

/-! ### dynamic stuffing -/
structure Sst where
  last : Bool
  run : Nat
def Sst.see (s : Sst) (b : Bool) : Sst := if 0 < s.run ∧ s.last = b then ⟨s.last, s.run + 1⟩ else ⟨b, 1⟩
def Sst.start : Sst := ⟨false, 0⟩
def stuffGo (s : Sst) : List Bool → List Bool
  | [] => []
  | b :: r => if s.run = 5 then (!s.last) :: b :: stuffGo ((s.see (!s.last)).see b) r else b :: stuffGo (s.see b) r
def stuffed (l : List Bool) : List Bool := stuffGo Sst.start l
/-- Raw bits taken apart: the bits, how many stuff bits, whether the last one was one; none: a stuff bit isn't. -/
def splitGo (s : Sst) (f : Bool) : List Bool → Option (List Bool × Nat × Bool)
  | [] => some ([], 0, f)
  | b :: r =>
    if s.run = 5 then (if b = s.last then none else (splitGo (s.see b) true r).map fun x => (x.1, x.2.1 + 1, x.2.2))
    else (splitGo (s.see b) false r).map fun x => (b :: x.1, x.2.1, x.2.2)
def stuffCount (raw : List Bool) : Option Nat := (splitGo Sst.start false raw).map (·.2.1)

/-! ### fixed stuffing -/
structure Way where
  every : Nat
  ahead : Bool
def Way.left (w : Way) : Nat := if w.ahead then 0 else w.every
def fixPutGo (ev : Nat) : Bool → Nat → List Bool → List Bool
  | _, _, [] => []
  | last, left, b :: r => if left = 0 then (!last) :: b :: fixPutGo ev b (ev - 1) r else b :: fixPutGo ev b (left - 1) r
def fixPut (prev : Bool) (l : List Bool) (w : Way) : List Bool := fixPutGo w.every prev w.left l
/-- What a row with fixed stuffing tells, and whether its last bit is a stuff bit; none: a stuff bit isn't. -/
def fixGetGo (ev : Nat) : Bool → Nat → Bool → List Bool → Option (List Bool × Bool)
  | _, _, f, [] => some ([], f)
  | last, left, _, b :: r =>
    if left = 0 then (if b = !last then fixGetGo ev b ev true r else none)
    else (fixGetGo ev b (left - 1) false r).map fun x => (b :: x.1, x.2)
def fixGet (prev : Bool) (raw : List Bool) (w : Way) : Option (List Bool × Bool) := fixGetGo w.every prev w.left false raw
def fixSize (n : Nat) (w : Way) : Nat := if n = 0 then 0 else n + (n - 1) / w.every + (if w.ahead then 1 else 0)
def tally (n : Nat) : List Bool :=
  match n % 8 with
  | 0 => [false, false, false, false] | 1 => [false, false, true, true] | 2 => [false, true, true, false] | 3 => [false, true, false, true]
  | 4 => [true, true, false, false] | 5 => [true, true, true, true] | 6 => [true, false, true, false] | _ => [true, false, false, true]
def tells (l : List Bool) : Option Nat :=
  if l = tally 0 then some 0 else if l = tally 1 then some 1 else if l = tally 2 then some 2 else if l = tally 3 then some 3
  else if l = tally 4 then some 4 else if l = tally 5 then some 5 else if l = tally 6 then some 6 else if l = tally 7 then some 7 else none

/-! ### frames -/
structure Frame where
  kind : Int
  id : Nat
  ext : Bool
  rtr : Bool
  brs : Bool
  esi : Bool
  sec : Bool
  sdt : Nat
  vcid : Nat
  af : Nat
  data : List UInt8
  deriving DecidableEq
def Frame.zero : Frame := ⟨0, 0, false, false, false, false, false, 0, 0, 0, []⟩
instance : Inhabited Frame := ⟨Frame.zero⟩
def fdSizes : List Nat := [0, 1, 2, 3, 4, 5, 6, 7, 8, 12, 16, 20, 24, 32, 48, 64]
/-- How a size is told, where it may be. -/
def codeOf (kind : Int) (n : Nat) : Option Nat :=
  if kind = 1 then (if n ≤ 8 then some n else none)
  else if kind = 2 then fdSizes.idxOf? n
  else if kind = 3 then (if 1 ≤ n ∧ n ≤ 2048 then some (n - 1) else none)
  else none
def Frame.ok (f : Frame) : Bool :=
  (codeOf f.kind f.data.length).isSome && decide (f.id < (if f.ext then 536870912 else 2048)) && !(f.rtr && !f.data.isEmpty) &&
  (if f.kind = 1 then !f.brs && !f.esi && !f.sec && f.sdt == 0 && f.vcid == 0 && f.af == 0
   else if f.kind = 2 then !f.ext && !f.rtr && !f.sec && f.sdt == 0 && f.vcid == 0 && f.af == 0
   else !f.ext && !f.rtr && !f.brs && !f.esi)

/-! ### wires -/
structure Wire where
  bits : List Bool
  arb : Nat
  ack : Nat
def ones (n : Nat) : List Bool := List.replicate n true
def cHead (f : Frame) : List Bool :=
  false :: ((if f.ext then bitsOf (f.id / 262144) 11 ++ [true, true] ++ bitsOf (f.id % 262144) 18 else bitsOf f.id 11) ++ [f.rtr, false, false])
def cBody (f : Frame) : List Bool := crcAdd 1 (cHead f ++ bitsOf f.data.length 4 ++ bytesBits f.data)
def cWire (f : Frame) : Wire := ⟨stuffed (cBody f) ++ ones 10, (stuffed (cHead f)).length, (stuffed (cBody f)).length + 1⟩
def fHead (f : Frame) : List Bool := false :: (bitsOf f.id 11 ++ [false, false, true, false])
def fBody (f : Frame) : List Bool := fHead f ++ [f.brs, f.esi] ++ bitsOf ((codeOf 2 f.data.length).getD 0) 4 ++ bytesBits f.data
def fSumKind (n : Nat) : Nat := if 16 < n then 3 else 2
def fClose (raw : List Bool) (st n : Nat) : List Bool :=
  fixPut (raw.getLastD false) ((crcAdd (fSumKind n) (raw ++ tally st)).drop raw.length) ⟨4, true⟩
def fRaw (f : Frame) : List Bool := stuffed (fBody f) ++ fClose (stuffed (fBody f)) ((stuffed (fBody f)).length - (fBody f).length) f.data.length
def fWire (f : Frame) : Wire := ⟨fRaw f ++ ones 10, (stuffed (fHead f)).length, (fRaw f).length + 1⟩
def xHead (f : Frame) : List Bool := false :: (bitsOf f.id 11 ++ [false, false, true, true, false])
def xPart (f : Frame) : List Bool :=
  bitsOf f.sdt 8 ++ [f.sec] ++ bitsOf (f.data.length - 1) 11 ++ tally ((stuffed (xHead f)).length - (xHead f).length)
def xSealed (f : Frame) : List Bool := xPart f ++ bitsOf (crcSum 4 (xHead f ++ xPart f)) 13
def xBody (f : Frame) : List Bool := crcAdd 5 (xSealed f ++ bitsOf f.vcid 8 ++ bitsOf f.af 32 ++ bytesBits f.data)
def xRaw (f : Frame) : List Bool :=
  stuffed (xHead f) ++ [true, false, false, true] ++ fixPut true (xBody f) ⟨8, false⟩ ++ [false, true, true, false]
def xWire (f : Frame) : Wire := ⟨xRaw f ++ ones 10, (stuffed (xHead f)).length, (xRaw f).length + 1⟩
def wire (f : Frame) : Wire := if f.kind = 1 then cWire f else if f.kind = 2 then fWire f else xWire f

/-! ### the scanning machine -/
inductive PK where
  | fdSum (kind : Nat)
  | xlCode
  | xlData (size : Nat)
inductive MK where
  | xlCode
  | fin
inductive Stp where
  | dyn
  | part (w : Way) (size : Nat) (prev : Bool) (k : PK)
  | mark (row : List Bool) (k : MK)
  | last
inductive Nx where
  | start | ident | extended | reserved | format | newer | code
  | codeEnd (at_ n : Nat)
  | fdCode
  | fdData (size : Nat)
  | xlHead
structure St where
  kind : Nat
  err : Nat
  f : Frame
def St.more : St := ⟨0, 0, Frame.zero⟩
structure M where
  xl : Bool
  st : St
  seen : Nat
  step : Stp
  next : Nx
  raw : List Bool
  l : List Bool
  need : Nat
  own : List Bool
  f : Frame
  fits : Bool
  at_ : Nat
def M.new (xl : Bool) : M := ⟨xl, St.more, 0, .dyn, .start, [], [], 1, [], Frame.zero, false, 0⟩
def M.bad (m : M) (e : Nat) : M := { m with st := ⟨3, e, Frame.zero⟩ }
def M.ask (m : M) (n : Nat) (k : Nx) : M := { m with need := n, next := k }
def M.number (m : M) (a b : Nat) : Nat := num ((m.l.take b).drop a)
def M.flag (m : M) (i : Nat) : Bool := m.l.getD i false
def M.fin (m : M) : M := { m with at_ := 0, step := .last }
def M.part (m : M) (w : Way) (n : Nat) (k : PK) : M := { m with step := .part w (fixSize n w) (if w.ahead then m.raw.getLastD false else true) k }
def M.mark (m : M) (row : List Bool) (k : MK) : M := { m with at_ := 0, step := .mark row k }
def M.tells (m : M) (l : List Bool) : Bool :=
  match Om.tells l with
  | some n => n == (stuffCount m.raw).getD 0 % 8
  | none => false
def M.xlData (m : M) (l : List Bool) (size : Nat) : M :=
  { m with
    f := { m.f with sdt := num (l.take 8), sec := l.getD 8 false, vcid := num ((l.take 45).drop 37), af := num ((l.take 77).drop 45), data := pack ((l.take (77 + 8 * size)).drop 77) }
    fits := m.tells ((l.take 24).drop 20) && crcFits 4 (m.l ++ l.take 37) && crcFits 5 l }
/-- What is done with a part's bits. -/
def M.parted (m : M) (l : List Bool) : PK → M
  | .fdSum kind => { m with fits := m.tells (l.take 4) && crcFits kind (m.raw ++ l) }.fin
  | .xlCode => m.part ⟨8, false⟩ (109 + 8 * (num (l.drop 9) + 1)) (.xlData (num (l.drop 9) + 1))
  | .xlData size => (m.xlData l size).mark [false, true, true, false] .fin
def M.fdData (m : M) (size : Nat) : M :=
  { m with f := { m.f with data := pack (m.l.drop 22) } }.part ⟨4, true⟩ (4 + crcSize (fSumKind size)) (.fdSum (fSumKind size))
def M.code (m : M) : M :=
  let n := m.number (m.l.length - 4) m.l.length
  if n ≤ 8 ∧ (n = 0 ∨ m.f.rtr = false) then m.ask (m.l.length + 8 * n + 15) (.codeEnd m.l.length n) else m.bad 5
def M.fdCode (m : M) : M :=
  let m1 := { m with f := { m.f with brs := m.flag 16, esi := m.flag 17 } }
  let size := fdSizes.getD (m.number 18 22) 0
  if size = 0 then m1.fdData 0 else m1.ask (22 + 8 * size) (.fdData size)
def M.nexts (m : M) : M :=
  match m.next with
  | .start => if m.flag 0 = false then m.ask 14 .ident else m.bad 5
  | .ident =>
    let m1 := { m with f := { Frame.zero with kind := 1, id := m.number 1 12, rtr := m.flag 12 } }
    if m.flag 13 = false then m1.ask 15 .format else if m.flag 12 = true then m1.ask 34 .extended else m1.bad 5
  | .extended =>
    let m1 := { m with f := { m.f with ext := true, rtr := m.flag 32, id := m.f.id * 262144 + m.number 14 32 } }
    if m.flag 33 = false then m1.ask 35 .reserved else m1.bad 5
  | .reserved => if m.flag 34 = false then m.ask 39 .code else m.bad 5
  | .format => if m.flag 14 = false then m.ask 19 .code else if m.f.rtr = false then m.ask 16 .newer else m.bad 5
  | .newer =>
    if m.flag 15 = false then { m with f := { m.f with kind := 2 } }.ask 22 .fdCode
    else if m.xl = false then { m with st := ⟨4, 0, Frame.zero⟩ }
    else { m with f := { m.f with kind := 3 } }.ask 17 .xlHead
  | .code => m.code
  | .codeEnd a n => { m with f := { m.f with data := pack ((m.l.take (a + 8 * n)).drop a) }, fits := crcFits 1 m.l }.fin
  | .fdCode => m.fdCode
  | .fdData size => m.fdData size
  | .xlHead => if m.flag 16 = false then m.mark [true, false, false, true] .xlCode else m.bad 5
/-- Do the last five of a row stand alike? -/
def full5 (raw : List Bool) : Bool :=
  match raw.reverse with
  | a :: b :: c :: d :: e :: _ => a == b && b == c && c == d && d == e
  | _ => false
def M.dynamic (m : M) (b : Bool) : M :=
  if full5 m.raw then (if b = m.raw.getLastD false then m.bad 4 else { m with raw := m.raw ++ [b] })
  else
    let m1 := { m with raw := m.raw ++ [b], l := m.l ++ [b] }
    if m1.l.length = m.need then m1.nexts else m1
def M.lastBit (m : M) (b : Bool) : M :=
  let m1 := { m with at_ := m.at_ + 1, st := St.more }
  if m.at_ = 2 ∧ m.fits = false then m1.bad 6
  else if m.at_ ≠ 1 ∧ b = false then m1.bad 5
  else if m.at_ = 0 ∧ m.fits = true then { m1 with st := ⟨1, 0, Frame.zero⟩ }
  else if m1.at_ = 9 then { m1 with st := ⟨2, 0, m.f⟩ }
  else m1
def M.stepBit (m : M) (b : Bool) : M :=
  match m.step with
  | .dyn => m.dynamic b
  | .part w size prev k =>
    let m1 := { m with own := m.own ++ [b] }
    match fixGet prev m1.own w with
    | none => m1.bad 4
    | some (l, f) => if m1.own.length = size then m1.parted (if f then [] else l) k else m1
  | .mark row k =>
    if b = row.getD m.at_ false then
      let m1 := { m with at_ := m.at_ + 1 }
      if m1.at_ = row.length then (match k with | .xlCode => m1.part ⟨8, false⟩ 20 .xlCode | .fin => m1.fin) else m1
    else m.bad 5
  | .last => m.lastBit b
def M.see (m : M) (b : Bool) : M :=
  let m1 := { m with seen := m.seen + 1 }
  if m.st.kind < 2 then m1.stepBit b else m1

/-! ### counters -/
structure Fault where
  tec : Nat
  rec_ : Nat
  off : Bool
  deriving DecidableEq
def Fault.ok (s : Fault) : Bool := decide (s.tec ≤ 263) && decide (s.rec_ ≤ 255) && (s.off == decide (255 < s.tec))
/-- 0 active, 1 passive, 2 off. -/
def Fault.mode (s : Fault) : Nat := if s.off then 2 else if 127 < s.tec ∨ 127 < s.rec_ then 1 else 0
def Fault.sendError (s : Fault) : Fault := { s with tec := s.tec + 8, off := decide (255 < s.tec + 8) }
def Fault.next (s : Fault) (e : Nat) : Fault :=
  if s.off then (if e = 6 then ⟨0, 0, false⟩ else s)
  else match e with
    | 1 => { s with tec := s.tec - 1 }
    | 2 => { s with rec_ := if 127 < s.rec_ then 120 else s.rec_ - 1 }
    | 3 => s.sendError
    | 4 => { s with rec_ := min 255 (s.rec_ + 1) }
    | 5 => if s.mode = 0 then s.sendError else s
    | _ => s

/-! ### a node: 0 Join, 1 Idle, 2 Send, 3 Receive, 4 Last, 5 Flag, 6 Overload, 7 Delim, 8 Pause, 9 Suspend, 10 Away, 11 Recover -/
structure Ev where
  kind : Nat
  err : Nat
  f : Frame
def Ev.none : Ev := ⟨0, 0, Frame.zero⟩
structure N where
  knows : Bool
  has : Bool
  f : Frame
  w : Wire
  phase : Nat
  count : Nat
  fault : Fault
  row : M
  quiet : Bool
  sender : Bool
def N.new (knows : Bool) : N := ⟨knows, false, Frame.zero, ⟨[], 0, 0⟩, 0, 0, ⟨0, 0, false⟩, M.new knows, false, false⟩
def N.to (n : N) (p : Nat) : N := { n with phase := p, count := 0 }
/-- The error of a load, and the node behind it. -/
def N.load (n : N) (f : Frame) : Nat × N :=
  if f.ok = false then (2, n)
  else if f.kind = 3 ∧ n.knows = false then (10, n)
  else if n.has then (8, n)
  else (0, { n with has := true, f := f, w := wire f })
def N.drop (n : N) : Bool × N := if n.has = false ∨ n.phase = 2 then (false, n) else (true, { n with has := false })
def N.restart (n : N) : Bool × N := if n.phase ≠ 10 then (false, n) else (true, n.to 11)
def N.out (n : N) : Bool :=
  if n.phase = 1 then !n.has
  else if n.phase = 2 then n.w.bits.getD n.count true
  else if n.phase = 3 then !(n.row.st.kind == 1)
  else if n.phase = 5 then n.quiet
  else if n.phase = 6 then false
  else true
def N.passive (n : N) : Bool := n.fault.mode == 1
def N.counts (n : N) (e : Nat) : N := { n with fault := n.fault.next e }
def N.wrong (n : N) (event e : Nat) : Ev × N :=
  let n1 := n.counts event
  let n2 := { n1 with quiet := n1.passive }
  (⟨4, e, Frame.zero⟩, if n2.fault.off then n2.to 10 else n2.to 5)
def N.heard (n : N) (s : St) (other : Nat) : Ev × N :=
  match s.kind with
  | 2 => (⟨2, 0, s.f⟩, (n.counts 2).to 4)
  | 3 => n.wrong 4 s.err
  | 4 => (⟨other, 0, Frame.zero⟩, n.to 0)
  | _ => (⟨other, 0, Frame.zero⟩, n)
def N.begin (n : N) (p : Nat) : N := { n.to p with row := M.new n.knows }
def N.starts (n : N) (b : Bool) : Ev × N :=
  let n1 := n.begin 3
  (Ev.none, { n1 with row := n1.row.see b })
def N.counted (n : N) (b : Bool) (most next : Nat) : Ev × N :=
  let c := if b then n.count + 1 else 0
  (Ev.none, if c = most then n.to next else { n with count := c })
def N.send (n : N) (b : Bool) : Ev × N :=
  let out := n.w.bits.getD n.count true
  let n1 := { n with row := n.row.see b }
  let on : Unit → Ev × N := fun _ =>
    let n2 := { n1 with count := n.count + 1 }
    if n2.count < n.w.bits.length then (Ev.none, n2) else (⟨1, 0, n.f⟩, (({ n2 with has := false }).counts 1).to 8)
  if n.count = n.w.ack then (if b then n1.wrong 5 9 else on ())
  else if b ≠ out then
    (if out = true ∧ n.count < n.w.arb then ({ n1.to 3 with sender := false }).heard n1.row.st 3 else n1.wrong 3 5)
  else on ()
def N.idle (n : N) (b : Bool) : Ev × N :=
  let n1 := { n with sender := n.has }
  if n.has then (n1.begin 2).send b else if b = false then n1.starts b else (Ev.none, n1)
def N.receive (n : N) (b : Bool) : Ev × N :=
  let n1 := { n with row := n.row.see b }
  n1.heard n1.row.st 0
def N.lastP (n : N) (b : Bool) : Ev × N := (Ev.none, if b then n.to 8 else n.to 6)
def N.pause (n : N) (b : Bool) : Ev × N :=
  if b then n.counted b 3 (if n.sender ∧ n.passive then 9 else 1)
  else if n.count = 2 then n.starts b
  else (Ev.none, n.to 6)
def N.suspend (n : N) (b : Bool) : Ev × N := if b then n.counted b 8 1 else n.starts b
def N.recover (n : N) (b : Bool) : Ev × N :=
  let c := if b then n.count + 1 else n.count - n.count % 11
  (Ev.none, if c = 176 then (n.counts 6).to 1 else { n with count := c })
def N.take (n : N) (b : Bool) : Ev × N :=
  match n.phase with
  | 0 => n.counted b 11 1
  | 1 => n.idle b
  | 2 => n.send b
  | 3 => n.receive b
  | 4 => n.lastP b
  | 5 => n.counted true 6 7
  | 6 => n.counted true 6 7
  | 7 => n.counted b 8 8
  | 8 => n.pause b
  | 9 => n.suspend b
  | 10 => (Ev.none, n)
  | _ => n.recover b
/-- What it is: its phase, how far, its counters, whether it has a frame. -/
def N.far (n : N) : Nat := if n.phase = 3 then n.row.seen else n.count

end Om

/- FrameTorn: what the law rests on. -/
import Derived.Test.YtjcdpmianmgiaaaTornD
import Derived.Test.YtjcdpmianmgiaaaTornE
